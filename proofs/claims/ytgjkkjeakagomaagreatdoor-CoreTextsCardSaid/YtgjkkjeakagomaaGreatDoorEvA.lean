/- A part of the proof. -/
import Derived.Test.YtgjkkjeakagomaaGreatDoorAl
import Derived.Laws.Externs
import Derived.Laws.BytesString
import Derived.Laws.Append
import Derived.Laws.AppendOwn
import Derived.Laws.StructEq
import Derived.Laws.IdiomStrings
import Derived.MapKept
import Derived.WalkKit
import Derived.WalkSpells
import Derived.WalkLawsBesides
import Derived.OrdersHeld
import Derived.Lib.Strings
import Derived.Lib.AppendStr
import Derived.DeepKeys3
import Derived.ChangeKeysEq
set_option linter.all false
namespace Go.Ev
/-! ### The heap, by cells -/
abbrev H:=Array Obj
abbrev ku:=Nat->Value
def hc(h:H)(b o:Nat):Option Value:=match h[b]? with|some (.cells c _ _)=>c[o]? |_=>none
def lS(h:H)(b:Nat):Nat:=match h[b]? with|some (.cells c _ _)=>c.size|_=>0
def hv(h:H)(b o:Nat):Value:=(hc h b o).getD undef
def tJ(h:H)(b:Nat):Nat×Nat:=match h[b]? with|some (.cells _ _ f)=>f|_=>(0,0)
def ky(h:H)(b o:Nat)(v:Value):H:=h.modify b fun| .cells c e f=> .cells (c.setIfInBounds o v) e f|x=>x
def qV(h:H)(b o n:Nat):List Value:=(List.range n).map λj=>hv h b (o+j)
theorem pY(w:World)(b o:Nat):w.cell? ⟨b,o,none⟩=hc w.heap b o:=by
 unfold World.cell? hc;cases w.heap[b]? with
 |none=>rfl
 |some x=>cases x<;>rfl
theorem wT{h:H}{b o:Nat}(hb:o<lS h b):hc h b o=some (hv h b o):=by
 unfold hv hc lS at*
 cases hx:h[b]? with
 |none=>simp [hx]at hb
 |some x=>cases x<;>simp_all
/-! ### Views of values -/
def tb:Value->Bool| .bool b=>b|_=>false
def ti:Value->Int| .int _ n=>n|_=>0
def tk:Value->IntKind| .int k _=>k|_=> .i64
def bl:Value->List UInt8| .string s=>s.data.toList|_=>[]
def str(l:List UInt8):Value:= .string ⟨l.toArray⟩
def kS:Value->Bool| .int _ _=>true|_=>false
def qJ:Value->Bool| .string _=>true|_=>false
def abZ:Value->Bool| .slice _ _ _=>true|_=>false
def qC:Value->Bool| .bool _=>true|_=>false
def Zh(v:Value)(b:Bool):Bool:=match v with| .bool x=>x == b|_=>false
@[simp] theorem bl_str (l:List UInt8):bl (str l)=l:=rfl
@[simp] theorem isStr_str (l:List UInt8):qJ (str l)=true:=rfl
theorem alu{v:Value}(h:qJ v=true):str (bl v)=v:=by cases v<;>simp_all [qJ,str,bl]
/-! ### Cells that can be compared -/
inductive Kc where|int (k:IntKind)|str|bool
 deriving Inhabited
def HV:Kc->Value->Bool
 | .int k,.int k' _=>decide (k=k')| .str,.string _=>true| .bool,.bool _=>true|_,_=>false
def nk:List Kc->List Value->Bool
 |[],[]=>true
 |k::ks,v::vs=>HV k v && nk ks vs
 |_,_=>false
def ceq:Value->Value->Bool
 | .int _ a,.int _ b=>decide (a=b)| .string a,.string b=>decide (a.data.toList=b.data.toList)| .bool a,.bool b=>decide (a=b)|_,_=>false
def HY:Kc->Value->Bool
 | .int k,.int k' n=>decide (k'=k) && (Lit.int k n).wf| .str,.string s=>decide (s.size<=maxLen)| .bool,.bool _=>true|_,_=>false
def qm:List Kc->List Value->Bool
 |[],[]=>true
 |k::ks,v::vs=>HY k v && qm ks vs
 |_,_=>false
def Ch(ks:List Kc)(v:Value):Bool:=match v with| .agg xs=>qm ks xs.toList|_=>false
def HZ:List Value->List Value->Bool
 |[],[]=>true
 |a::x,b::y=>ceq a b && HZ x y
 |_,_=>false
inductive Kn where|ptr|sl|map|iface|func
 deriving Inhabited
def uT :Kn->Value->Option Bool
 | .ptr,.pointer a=>some a.isNone| .sl,.slice a _ _=>some a.isNone| .map,.map a=>some a.isNone| .iface,.nilIface=>some true| .iface,.iface _ _=>some false| .func,.nilFunc=>some true| .func,.func _ _ _=>some false|_,_=>none
def xM(op:BinOp)(k:IntKind)(x y:Int):Int:=match op with
 | .and=>k.wrap (BitVec.ofInt k.bits x &&& BitVec.ofInt k.bits y).toNat
 | .or=>k.wrap (BitVec.ofInt k.bits x ||| BitVec.ofInt k.bits y).toNat
 | .xor=>k.wrap (BitVec.ofInt k.bits x ^^^ BitVec.ofInt k.bits y).toNat
 | .andNot=>k.wrap (BitVec.ofInt k.bits x &&& ~~~(BitVec.ofInt k.bits y)).toNat
 | .shl=>k.wrap (x*2 ^ (min y.toNat k.bits))
 | .shr=>x.fdiv (2 ^ (min y.toNat k.bits))
 |_=>0
def rF:BinOp->Bool| .shl| .shr=>true|_=>false
def Us:BinOp->Bool| .and| .or| .xor| .andNot| .shl| .shr=>true|_=>false
/-! ### Quiet operations -/
inductive Q1 where
 |id|nilck|fld (off:Nat)|ld1|ldn (n:Nat)|not|neg|len|lens|ext (i:Nat)|part (off:Nat)|partn (off n:Nat)|conv (k:IntKind)|mki (t:TypeId)|cap|bnot|arr (n:Nat)
 deriving Inhabited
inductive Q2 where
 |bin (op:BinOp)|eqb (neg:Bool)|idxS|idxA (n:Nat)|put (off n:Nat)|subLo|subHi|cutLo (n:Nat)|cutHi (n:Nat)|bits (op:BinOp)|eqn (k:Kn) (neg:Bool)|eqs (neg:Bool) (ks:List Kc)|idxP (len n:Nat)|idxR (len n:Nat) (agg:Bool)|mm (max:Bool)|cutPL (len n:Nat)|cutPH (len:Nat)
 deriving Inhabited
inductive Q3 where
 |pick|sub|cut (n:Nat)|cutP (len n:Nat)
 deriving Inhabited
def s1:Q1->Value->H->Prop
 | .id,_,_=>True
 | .nilck,x,_=>match x with| .pointer (some _)=>True|_=>False
 | .fld _,x,_=>match x with| .pointer (some _)=>True|_=>False
 | .ld1,x,h=>match x with| .pointer (some ⟨b,o,none⟩)=>o<lS h b|_=>False
 | .ldn n,x,h=>match x with| .pointer (some ⟨b,o,none⟩)=>o+n<=lS h b|_=>False
 | .not,x,_=>qC x=true
 | .neg,x,_=>kS x=true
 | .len,x,_=>abZ x=true
 | .lens,x,_=>qJ x=true
 | .ext i,x,_=>match x with| .tuple vs=>i<vs.size|_=>False
 | .part o,x,_=>match x with| .agg cs=>o<cs.size|_=>False
 | .partn _ _,x,_=>match x with| .agg _=>True|_=>False
 | .conv _,x,_=>kS x=true
 | .mki _,_,_=>True
 | .cap,x,_=>abZ x=true
 | .bnot,x,_=>kS x=true
 | .arr _,x,_=>match x with| .pointer (some ⟨_,_,none⟩)=>True|_=>False
def v1:Q1->Value->H->Value
 | .id,x,_=>x
 | .nilck,x,_=>x
 | .fld n,x,_=>match x with| .pointer (some a)=> .pointer (some (a.add n))|_=>undef
 | .ld1,x,h=>match x with| .pointer (some a)=>hv h a.block a.off|_=>undef
 | .ldn n,x,h=>match x with| .pointer (some a)=> .agg (qV h a.block a.off n).toArray|_=>undef
 | .not,x,_=> .bool (!tb x)
 | .neg,x,_=> .int (tk x) ((tk x).wrap (0 - ti x))
 | .len,x,_=>match x with| .slice _ n _=> .int .i64 n|_=>undef
 | .lens,x,_=> .int .i64 (bl x).length
 | .ext i,x,_=>match x with| .tuple vs=>vs.getD i undef|_=>undef
 | .part o,x,_=>match x with| .agg cs=>cs.getD o undef|_=>undef
 | .partn o n,x,_=>match x with| .agg cs=> .agg (cs.extract o (o+n))|_=>undef
 | .conv k,x,_=> .int k (k.wrap (ti x))
 | .mki t,x,_=> .iface t x
 | .cap,x,_=>match x with| .slice _ _ c=> .int .i64 c|_=>undef
 | .bnot,x,_=> .int (tk x) (xM .xor (tk x) (if(tk x).signed then -1 else(tk x).max) (ti x))
 | .arr n,x,_=>match x with| .pointer (some a)=> .slice (some a) n n|_=>undef
def ab0(op:BinOp)(a b:Int):Int:=match op with
 | .add=>a+b| .sub=>a - b| .mul=>a*b| .quo=>a.tdiv b| .rem=>a.tmod b|_=>0
def akx(op:BinOp)(a b:Int):Bool:=match op with
 | .eql=>decide (a=b)| .neq=> !decide (a=b)| .lss=>decide (a<b)| .leq=>decide (a<=b)| .gtr=>decide (b<a)| .geq=>decide (b<=a)|_=>false
def aky(op:BinOp)(a b:List UInt8):Bool:=match op with
 | .eql=>decide (a=b)| .neq=> !decide (a=b)| .lss=>Op.bytesLess a b| .leq=>Op.bytesLess a b || decide (a=b)
 | .gtr=> !(Op.bytesLess a b || decide (a=b))| .geq=> !Op.bytesLess a b|_=>false
def tN:BinOp->Bool| .eql| .neq| .lss| .leq| .gtr| .geq=>true|_=>false
def wU:BinOp->Bool| .add| .sub| .mul| .quo| .rem=>true|_=>false
def s2:Q2->Value->Value->H->Prop
 | .bin op,x,y,_=>match x with
  | .int k _=>kS y=true/\tk y=k/\(tN op=true\/wU op=true)/\(op= .quo\/op= .rem->ti y≠0)
  | .string _=>qJ y=true/\(tN op=true\/op= .add/\(bl x).length+(bl y).length<=9223372036854775807)
  |_=>False
 | .eqb _,x,y,_=>qC x=true/\qC y=true
 | .idxS,x,i,_=>qJ x=true/\kS i=true/\0<=ti i/\ti i<(bl x).length
 | .idxA _,x,i,_=>match x with| .slice (some _) n _=>kS i=true/\0<=ti i/\ti i<n|_=>False
 | .put o n,x,v,_=>match x with| .agg cs=>v.cells.size=n/\o+n<=cs.size|_=>False
 | .subLo,x,i,_=>qJ x=true/\kS i=true/\0<=ti i/\ti i<=(bl x).length
 | .subHi,x,i,_=>qJ x=true/\kS i=true/\0<=ti i/\ti i<=(bl x).length
 | .cutLo _,x,i,_=>match x with| .slice _ n _=>kS i=true/\0<=ti i/\ti i<=n|_=>False
 | .cutHi _,x,i,_=>match x with| .slice _ _ c=>kS i=true/\0<=ti i/\ti i<=c|_=>False
 | .bits op,x,y,_=>kS x=true/\kS y=true/\(if rF op then 0<=ti y else tk x=tk y)
 | .eqn k _,x,y,_=>match uT k x,uT k y with|some a,some b=>(a || b)=true|_,_=>False
 | .eqs _ ks,x,y,_=>match x,y with| .agg a,.agg b=>nk ks a.toList=true/\nk ks b.toList=true|_,_=>False
 | .idxP l _,x,i,_=>match x with| .pointer (some _)=>kS i=true/\0<=ti i/\ti i<l|_=>False
 | .idxR l n _,x,i,_=>match x with| .agg cs=>kS i=true/\0<=ti i/\ti i<l/\(ti i).toNat*n<cs.size|_=>False
 | .mm _,x,y,_=>kS x=true/\kS y=true
 | .cutPL l _,x,i,_=>match x with| .pointer (some ⟨_,_,none⟩)=>kS i=true/\0<=ti i/\ti i<=l|_=>False
 | .cutPH l,x,i,_=>match x with| .pointer (some ⟨_,_,none⟩)=>kS i=true/\0<=ti i/\ti i<=l|_=>False
def zL(cs:Array Value)(o:Nat)(v:Value):Array Value:=v.cells.zipIdx.foldl (λcs (c,j)=>cs.setIfInBounds (o+j) c) cs
def v2:Q2->Value->Value->H->Value
 | .bin op,x,y,_=>match x with
  | .int k a=>if wU op then .int k (if op == .rem then ab0 op a (ti y)else k.wrap (ab0 op a (ti y)))else .bool (akx op a (ti y))
  | .string _=>if op == .add then str (bl x++bl y)else .bool (aky op (bl x) (bl y))
  |_=>undef
 | .eqb neg,x,y,_=> .bool (if neg then !decide (tb x=tb y)else decide (tb x=tb y))
 | .idxS,x,i,_=> .int .u8 ((bl x).getD (ti i).toNat 0).toNat
 | .idxA m,x,i,_=>match x with| .slice (some a) _ _=> .pointer (some (a.add ((ti i).toNat*m)))|_=>undef
 | .put o _,x,v,_=>match x with| .agg cs=> .agg (zL cs o v)|_=>undef
 | .subLo,x,i,_=>str ((bl x).drop (ti i).toNat)
 | .subHi,x,i,_=>str ((bl x).take (ti i).toNat)
 | .cutLo m,x,i,_=>match x with| .slice a n c=> .slice (if c=(ti i).toNat then a else a.map (·.add ((ti i).toNat*m))) (n - (ti i).toNat) (c - (ti i).toNat)|_=>undef
 | .cutHi _,x,i,_=>match x with| .slice a _ c=> .slice a (ti i).toNat c|_=>undef
 | .bits op,x,y,_=> .int (tk x) (xM op (tk x) (ti x) (ti y))
 | .eqn k neg,x,y,_=> .bool (if neg then !(decide (uT k x=some true) && decide (uT k y=some true))else(decide (uT k x=some true) && decide (uT k y=some true)))
 | .eqs neg _,x,y,_=>match x,y with| .agg a,.agg b=> .bool (if neg then !HZ a.toList b.toList else HZ a.toList b.toList)|_,_=>undef
 | .idxP _ n,x,i,_=>match x with| .pointer (some a)=> .pointer (some (a.add ((ti i).toNat*n)))|_=>undef
 | .idxR _ n ag,x,i,_=>match x with| .agg cs=>if ag then .agg (cs.extract ((ti i).toNat*n) ((ti i).toNat*n+n))else cs.getD ((ti i).toNat*n) undef|_=>undef
 | .mm mx,x,y,_=> .int (tk x) (if mx then(if ti x<ti y then ti y else ti x)else(if ti y<ti x then ti y else ti x))
 | .cutPL l n,x,i,_=>match x with| .pointer (some a)=> .slice (some (if l=(ti i).toNat then a else a.add ((ti i).toNat*n))) (l - (ti i).toNat) (l - (ti i).toNat)|_=>undef
 | .cutPH l,x,i,_=>match x with| .pointer (some a)=> .slice (some a) (ti i).toNat l|_=>undef
def s3:Q3->Value->Value->Value->H->Prop
 | .pick,c,_,_,_=>qC c=true
 | .sub,x,i,j,_=>qJ x=true/\kS i=true/\kS j=true/\0<=ti i/\ti i<=ti j/\ti j<=(bl x).length
 | .cut _,x,i,j,_=>match x with| .slice _ _ c=>kS i=true/\kS j=true/\0<=ti i/\ti i<=ti j/\ti j<=c|_=>False
 | .cutP l _,x,i,j,_=>match x with| .pointer (some ⟨_,_,none⟩)=>kS i=true/\kS j=true/\0<=ti i/\ti i<=ti j/\ti j<=l|_=>False
def v3:Q3->Value->Value->Value->H->Value
 | .pick,c,a,b,_=>if tb c then a else b
 | .sub,x,i,j,_=>str (((bl x).take (ti j).toNat).drop (ti i).toNat)
 | .cut m,x,i,j,_=>match x with
  | .slice a _ c=> .slice (if c=(ti i).toNat then a else a.map (·.add ((ti i).toNat*m))) ((ti j).toNat - (ti i).toNat) (c - (ti i).toNat)
  |_=>undef
 | .cutP l m,x,i,j,_=>match x with
  | .pointer (some a)=> .slice (some (if l=(ti i).toNat then a else a.add ((ti i).toNat*m))) ((ti j).toNat - (ti i).toNat) (l - (ti i).toNat)
  |_=>undef
end Go.Ev
namespace Go.Ev
open BinOp
/-! ### Operations, sorted -/
inductive F where
 |call (f:FuncId)|box (t:TypeId)|alloc (t:TypeId) (zero:Array Value)|store (n:Nat)
 |bsl (e:TypeId) (sz len:Nat) (z:List Value) (ps:List Nat)|app (e:TypeId) (sz bytes:Nat) (z:List Value)|mks (e:TypeId) (sz bytes:Nat) (z:List Value)
 |callv|inv (tab:List (TypeId×FuncId))|mkf (fn:Fn) (k:Nat)|b2s|s2b (e:TypeId)|mkm|look (d:TypeDesc) (z:Value) (ok:Bool)|lenm|mput (d:TypeDesc)|lookG (ks:List Kc) (z:Value) (ok:Bool)|mputG (ks:List Kc)|apps (e:TypeId)|cpy (sz:Nat)|dead|pnc
 deriving Inhabited
inductive K where
 |q1 (q:Q1) (x:Operand)|q2 (q:Q2) (x y:Operand)|q3 (q:Q3) (x y z:Operand)
 |bld (zero:Array Value) (parts:List (Nat×Nat×Operand))
 |asg (x:Operand)|ef (f:F) (xs:List Operand)
 deriving Inhabited
structure pM (w w':World):Prop where
 os:w'.os=w.os
 tape:w'.tape=w.tape
 output:w'.output=w.output
theorem pM.refl(w:World):pM w w:=⟨rfl,rfl,rfl⟩
theorem pM.trans{a b c:World}(h:pM a b)(k:pM b c):pM a c:=⟨k.os.trans h.os,k.tape.trans h.tape,k.output.trans h.output⟩
def HC(P:Program)(f:FuncId)(args:List Value)(h:H)(R:Ending->H->Prop):Prop:=
 ∀w:World,w.heap=h->Calls P f args.toArray w λe w'=>pM w w'/\R e w'.heap
def tV:Value->Bool| .agg _| .tuple _=>false|_=>true
def jW(h:H)(b o:Nat):List Value->H
 |[]=>h
 |v::r=>jW (ky h b o v) b (o+1) r
def parts(v:Value)(z:Value->Prop):Prop:=z v
def pz(K:Value->H->Prop)(KP:List PanicEntry->H->Prop):Ending->H->Prop
 | .returned v,h=>K v h
 | .panicked c,h=>KP c h
 | .outgrown,_=>False
abbrev lq:=FuncId->List Value->H->(Value->H->Prop)->(List PanicEntry->H->Prop)->Prop
def Kz (P : Program) (f : FuncId) : Bool := match P.funcs[f]? with | some fn => fn.body.isSome && fn.name != "runtime.NumGoroutine" | none => false
def HX(P:Program)(f:FuncId)(vs:List Value)(h:H)(K:Value->H->Prop):Prop:= ∀w:World,w.heap=h-> ∃v w',(callFunc f vs.toArray).run P w= .ok (.value v) w'/\pM w w'/\K v w'.heap
def kN(P:Program)(f:FuncId)(vs:List Value)(h:H)(K:Value->H->Prop)(KP:List PanicEntry->H->Prop):Prop:=(Kz P f=true/\HC P f vs h (pz K KP))\/(Kz P f=false/\HX P f vs h K)
theorem kN.hc{P:Program}{f:FuncId}{vs:List Value}{h:H}{K:Value->H->Prop}{KP:List PanicEntry->H->Prop}(c:kN P f vs h K KP)(hb:Kz P f=true):HC P f vs h (pz K KP):=by
 rcases c with c|c
 ·exact c.2
 ·rw[hb]at c;cases c.1
def lQ(P:Program)(G:lq):Prop:= ∀f vs h K KP,G f vs h K KP->kN P f vs h K KP
def rf(z:List Value)(n:Nat):List Value:=(List.range (n*z.length)).map λi=>z.getD (i % z.length) undef
def rz(sz:Nat):List Value->List (Nat×Value)->List Value
 |l,[]=>l
 |l,(i,v)::r=>rz sz (zL l.toArray (i*sz) v).toList r
def Ci(sz len:Nat):List (Nat×Value)->Prop
 |[]=>True
 |(i,v)::r=>v.cells.size=sz/\i<len/\Ci sz len r
def Ia(h:H)(a:Option Addr)(k:Nat)(l:List Value):Prop:=(k=0/\l=[])\/match a with
 |none=>l=[]
 |some ⟨b,o,none⟩=>o+k<=lS h b/\l=qV h b o k
 |_=>False
def Ut(h:H)(b o:Nat)(vs:List Value):Prop:=o+vs.length<=lS h b/\(o+vs.length<=(tJ h b).1\/(tJ h b).2<=o)/\vs.all tV=true
def akz(e:TypeId)(sz bytes:Nat)(z:List Value)(a:Option Addr)(n c:Nat)(b:Option Addr)(m:Nat)(h:H)(K:Value->H->Prop):Prop:=
 (a=none->n=0/\c=0)/\(b=none->m=0)/\n<=c/\(n+m)*bytes<=140737488355328/\ ∃olds news,Ia h a (n*sz) olds/\Ia h b (m*sz) news/\
  (n+m<=c->match a with
   |none=>K (.slice none (n+m) c) h
   |some ⟨bb,o,none⟩=>Ut h bb (o+n*sz) news/\K (.slice a (n+m) c) (jW h bb (o+n*sz) news)
   |_=>False)/\
  (c<n+m-> ∀cap,n+m<=cap->cap<=maxLen->K (.slice (some ⟨h.size,0,none⟩) (n+m) cap) (h.push (.cells (olds++news++rf z (cap - (n+m))).toArray e)))
def Ib:List (TypeId×FuncId)->TypeId->Option FuncId
 |[],_=>none
 |(u,f)::r,t=>if u=t then some f else Ib r t
def sG(c:UInt8):Value:= .int .u8 c.toNat
def LB(h:H)(m:Value)(l:List MapEntry):Prop:=match m with
 | .map none=>l=[]
 | .map (some b)=> ∃a c,h[b]? =some (.map a c)/\l=a.toList
 |_=>False
def mr(v:Value)(ok found:Bool):Value:=if ok then .tuple #[v,.bool found]else v
def qp(G:lq)(f:F)(vs:List Value)(h:H)(K:Value->H->Prop)(KP:List PanicEntry->H->Prop):Prop:=match f,vs with
 | .call f,vs=>G f vs h K KP
 | .box t,[v]=>K (.pointer (some ⟨h.size,0,none⟩)) (h.push (.cells v.cells t))
 | .alloc t z,[]=>K (.pointer (some ⟨h.size,0,none⟩)) (h.push (.cells z t))
 | .store n,[p,v]=>match p with
  | .pointer (some ⟨b,o,none⟩)=>v.cells.size=n/\o+n<=lS h b/\(o+n<=(tJ h b).1\/(tJ h b).2<=o)/\v.cells.toList.all tV=true/\K undef (jW h b o v.cells.toList)
  |_=>False
 | .bsl e sz len z ps,vs=>ps.length=vs.length/\Ci sz len (ps.zip vs)/\K (.slice (some ⟨h.size,0,none⟩) len len) (h.push (.cells (rz sz z (ps.zip vs)).toArray e))
 | .app e sz bytes z,[s,x]=>match s,x with
  | .slice a n c,.slice b m _=>akz e sz bytes z a n c b m h K
  |_,_=>False
 | .mks e _ bytes z,[l,c]=>kS l=true/\kS c=true/\0<=ti l/\ti l<=ti c/\ti c*bytes<=140737488355328/\
   K (.slice (some ⟨h.size,0,none⟩) (ti l).toNat (ti c).toNat) (h.push (.cells (rf z (ti c).toNat).toArray e))
 | .callv,f::vs=>match f with| .func (.func g) first cap=>G g (first.toList++vs++cap.toList) h K KP|_=>False
 | .inv tab,r::vs=>match r with| .iface t v=>(match Ib tab t with|some g=>G g (v::vs) h K KP|none=>False)|_=>False
 | .mkf fn k,vs=>K (.func fn (vs.take k).toArray (vs.drop k).toArray) h
 | .b2s,[x]=>match x with
  | .slice none _ _=>K (str []) h
  | .slice (some ⟨b,o,none⟩) n _=>o+n<=lS h b/\ ∃l:List UInt8,qV h b o n=l.map sG/\K (str l) h
  |_=>False
 | .s2b e,[x]=>qJ x=true/\(bl x).length<=9223372036854775807/\ ∀cap,(bl x).length<=cap->cap<=maxLen->
   K (.slice (some ⟨h.size,0,none⟩) (bl x).length cap) (h.push (.cells ((bl x).map sG++List.replicate (cap - (bl x).length) (Value.int .u8 0)).toArray e (cap,cap+1)))
 | .mkm,_=>K (.map (some h.size)) (h.push (.map #[] 0))
 | .pnc,[x]=>(match x with| .iface _ _=>KP [{v:=x,recovered:=false}] h|_=>False)
 | .look d z ok,[m,k]=> ∃l,LB h m l/\MapKept.IsKey d k/\(∀x∈l,MapKept.IsKey d x.key)/\(∀e∈l,e.key=k->K (mr e.val ok true) h)/\((∀e∈l,e.key≠k)->K (mr z ok false) h)
 | .lenm,[m]=> ∃l,LB h m l/\K (.int .i64 l.length) h
 | .mput d,[m,k,v]=> ∃b a c,m= .map (some b)/\h[b]? =some (.map a c)/\MapKept.IsKey d k/\(∀x∈a.toList,MapKept.IsKey d x.key)/\
   (∀(i:Nat) (e:MapEntry),a[i]? =some e->e.key=k->K undef (h.setIfInBounds b (.map (a.modify i λe=>{e with key:=k,val:=v}) c)))/\
   ((∀e∈a.toList,e.key≠k)->K undef (h.setIfInBounds b (.map (a.push {key:=k,val:=v,born:=c}) (c+1))))
 | .lookG ks z ok,[m,k]=> ∃l,LB h m l/\Ch ks k=true/\(∀x∈l,Ch ks x.key=true)/\(∀e∈l,e.key=k->K (mr e.val ok true) h)/\((∀e∈l,e.key≠k)->K (mr z ok false) h)
 | .mputG ks,[m,k,v]=> ∃b a c,m= .map (some b)/\h[b]? =some (.map a c)/\Ch ks k=true/\(∀x∈a.toList,Ch ks x.key=true)/\
   (∀(i:Nat) (e:MapEntry),a[i]? =some e->e.key=k->K undef (h.setIfInBounds b (.map (a.modify i λe=>{e with key:=k,val:=v}) c)))/\
   ((∀e∈a.toList,e.key≠k)->K undef (h.setIfInBounds b (.map (a.push {key:=k,val:=v,born:=c}) (c+1))))
 | .cpy sz,[d,s]=>match d,s with
  | .slice (some ⟨b,o,none⟩) dn _,.slice sa sn _=> ∃news,Ia h sa (min sn dn*sz) news/\Ut h b o news/\K (.int .i64 (min sn dn:Nat)) (jW h b o news)
  |_,_=>False
 | .apps e,[s,x]=>match s with
  | .slice a n c=>qJ x=true/\(a=none->n=0/\c=0)/\n<=c/\n+(bl x).length<=140737488355328/\ ∃olds,Ia h a n olds/\
   (n+(bl x).length<=c->match a with
    |none=>K (.slice none n c) h
    |some ⟨bb,o,none⟩=>Ut h bb (o+n) ((bl x).map sG)/\K (.slice a (n+(bl x).length) c) (jW h bb (o+n) ((bl x).map sG))
    |_=>False)/\
   (c<n+(bl x).length-> ∀cap,n+(bl x).length<=cap->cap<=maxLen->K (.slice (some ⟨h.size,0,none⟩) (n+(bl x).length) cap) (h.push (.cells (olds++(bl x).map sG++List.replicate (cap - (n+(bl x).length)) (Value.int .u8 0)).toArray e)))
  |_=>False
 |_,_=>False
def pO(P:Program)(o:Oper):K->Prop
 | .q1 q x=> ∀(ρ:Operand->Value) (w:World),s1 q (ρ x) w.heap->(execOp ρ o).run P w= .ok (.value (v1 q (ρ x) w.heap)) w
 | .q2 q x y=> ∀(ρ:Operand->Value) (w:World),s2 q (ρ x) (ρ y) w.heap->(execOp ρ o).run P w= .ok (.value (v2 q (ρ x) (ρ y) w.heap)) w
 | .q3 q x y z=> ∀(ρ:Operand->Value) (w:World),s3 q (ρ x) (ρ y) (ρ z) w.heap->(execOp ρ o).run P w= .ok (.value (v3 q (ρ x) (ρ y) (ρ z) w.heap)) w
 | .bld z ps=> ∀(ρ:Operand->Value) (w:World),(∀p∈ps,(ρ p.2.2).cells.size=p.2.1/\p.1+p.2.1<=z.size)->
   (execOp ρ o).run P w= .ok (.value (.agg (ps.foldl (λcs p=>zL cs p.1 (ρ p.2.2)) z))) w
 | .asg x=> ∀(ρ:Operand->Value) (w:World),(execOp ρ o).run P w= .ok (.value (ρ x)) w
 | .ef f xs=> ∀(G:lq),lQ P G-> ∀(a:Act) (w:World) (next:Act->World->Prop) (Q:Exit->Act->World->Prop) (K:Value->H->Prop) (KP:List PanicEntry->H->Prop),
   qp G f (xs.map a.eval) w.heap K KP->(∀v w',pM w w'->K v w'.heap->next (a.put o.dst v) w')->(∀c w',pM w w'->KP c w'.heap->Q (.panic c) a w')->
   o.wp P a w next Q
def sH(P:Program)(t:TypeId):Option Nat:=(P.info? t).map (·.size)
def Cj(P:Program)(t:TypeId):Option Bool:=(P.underlying t).map fun| .struct _| .array _ _=>true|_=>false
def ab1(P:Program)(t:TypeId):Option (Array Value):=(P.info? t).bind λi=>i.zero.map (·.cells)
def Ex(P:Program)(s:TypeId)(f:Nat):Option Field:=match P.underlying s with
 |some (.struct fs)=>fs[f]?
 |_=>none
inductive Kd where|int|str|bool|slice (n:Nat)|other
def xN(P:Program)(t:TypeId):Kd:=match P.underlying t with
 |some (.int _)=> .int
 |some .string=> .str
 |some .bool=> .bool
 |some (.slice e)=>match sH P e with|some n=> .slice n|none=> .other
 |_=> .other
section
variable {P:Program} {ρ:Operand->Value} {w:World} {t:TypeId} {d:TypeDesc} {n:Nat} {b:Bool}
theorem xu(h:P.underlying t=some d):(underlying t).run P w= .ok d w:=by simp [underlying,h]
theorem PX(h:sH P t=some n):(sizeOf t).run P w= .ok n w:=by
 unfold sH at h
 cases hi:P.info? t with
 |none=>simp [hi]at h
 |some i=>simp [hi]at h;simp [sizeOf,typeInfo,hi,h]
theorem agg(h:Cj P t=some b):(isAgg t).run P w= .ok b w:=by
 unfold Cj at h
 cases hi:P.underlying t with
 |none=>simp [hi]at h
 |some d=>simp [hi]at h;subst h;cases d<;>simp [isAgg,xu hi]
theorem Fz{s:TypeId}{f:Nat}{fl:Field}(h:Ex P s f=some fl): ∃fs,P.underlying s=some (.struct fs)/\fs[f]? =some fl:=by
 unfold Ex at h
 split at h
 ·rename_i fs hu;exact⟨fs,hu,h⟩
 ·cases h
theorem Ic(h:xN P t= .str):P.underlying t=some .string:=by
 unfold xN at h
 split at h<;>try (cases h;done)
 ·assumption
 ·split at h<;>cases h
theorem Zi(h:xN P t= .bool):P.underlying t=some .bool:=by
 unfold xN at h
 split at h<;>try (cases h;done)
 ·assumption
 ·split at h<;>cases h
theorem yI(h:xN P t= .slice n): ∃e,P.underlying t=some (.slice e)/\sH P e=some n:=by
 unfold xN at h
 split at h<;>try (cases h;done)
 rename_i e hu
 split at h<;>cases h
 rename_i hs
 exact⟨e,hu,hs⟩
mutual
def LC(P:Program):Nat->TypeId->Option (List Kc)
 |0,_=>none
 |d+1,t=>match P.underlying t with
  |some (.int k)=>some [.int k]
  |some .string=>some [.str]
  |some .bool=>some [.bool]
  |some (.struct fs)=>if P.stoodInHeld t then none else FB P d 0 fs.toList
  |some (.array n e)=>match LC P d e,Cj P e,sH P e with
   |some l,some a,some sz=>if sz=l.length/\(a=true\/l.length=1)then some (List.replicate n l).flatten else none
   |_,_,_=>none
  |_=>none
def FB(P:Program):Nat->Nat->List Field->Option (List Kc)
 |_,_,[]=>some []
 |0,_,_::_=>none
 |d+1,o,f::fs=>match LC P d f.type,Cj P f.type,sH P f.type with
  | some l, some a, some n => if f.offset = o /\ f.name ≠ "_" /\ (if a then n = l.length else l.length = 1) then (FB P d (o + l.length) fs).map (l ++ ·) else none
  |_,_,_=>none
end
def ab2(x:Operand):Option K:=some (.q1 .id x)
def ab3(c a b:Operand):Option K:=some (.q3 .pick c a b)
def aht(x:Operand):Option K:=some (.q1 .nilck x)
def zM(P:Program)(s:TypeId)(x:Operand)(f:Nat):Option K:=
 (Ex P s f).bind λfl=>match sH P fl.type with
  |some (_+1)=>some (.q1 (.fld fl.offset) x)
  |_=>none
def Uu(P:Program)(t:TypeId)(x:Operand):Option K:=match Cj P t,sH P t with
 |some true,some n=>some (.q1 (.ldn n) x)
 |some false,some _=>some (.q1 .ld1 x)
 |_,_=>none
def XH:BinOp->Bool| .add| .sub| .mul| .quo| .rem| .eql| .neq| .lss| .leq| .gtr| .geq=>true|_=>false
def ab4(P:Program)(op:BinOp)(t:TypeId)(x y:Operand):Option K:=match xN P t with
 | .int| .str=>if XH op then some (.q2 (.bin op) x y)else none
 | .bool=>match op with
  | .eql=>some (.q2 (.eqb false) x y)
  | .neq=>some (.q2 (.eqb true) x y)
  |_=>none
 |_=>none
def knT(P:Program)(t:TypeId):Option Kn:=match P.underlying t with
 |some (.pointer _)=>some .ptr|some (.slice _)=>some .sl|some (.map _ _)=>some .map|some (.func _ _ _)=>some .func|some (.interface _)=>some .iface|_=>none
def isC:Operand->Bool| .const _=>true|_=>false
def Ie(P:Program)(op:BinOp)(t:TypeId)(x y:Operand):Option K:=match xN P t with
 | .int=>if Us op then some (.q2 (.bits op) x y)else none
 | .str=>none
 | .bool=>none
 |_=>match op with
  | .eql=>trEq false
  | .neq=>trEq true
  |_=>none
where
 trEq (neg:Bool):Option K:=match knT P t with
  |some .iface=>if isC x || isC y then some (.q2 (.eqn .iface neg) x y)else none
  |some k=>some (.q2 (.eqn k neg) x y)
  |none=>match P.underlying t,LC P 20 t with
   |some (.struct _),some ks=>if P.eqGuardType P.depth t then none else some (.q2 (.eqs neg ks) x y)
   |_,_=>none
def ai2(op:UnOp)(x:Operand):Option K:=match op with
 | .not=>some (.q1 .not x)
 | .neg=>some (.q1 .neg x)
 | .xor=>some (.q1 .bnot x)
 |_=>none
def Uv(P:Program)(s d:TypeId)(x:Operand):Option K:=match P.underlying s,P.underlying d with
 |some (.int _),some (.int k)=>some (.q1 (.conv k) x)
 |some (.slice e),some .string=>(match P.underlying e with|some (.int .u8)=>some (.ef .b2s [x])|_=>none)
 |some .string,some (.slice e)=>(match P.underlying e with|some (.int .u8)=>some (.ef (.s2b e) [x])|_=>none)
 |_,_=>none
def ab5(P:Program)(t:TypeId)(len:Nat)(ps:Array (Nat×Operand)):Option K:=match P.underlying t with
 |some (.slice e)=>match P.info? e with
  |some i=>match i.zero with
   |some z=>if z.cells.size=i.size/\len*i.size<=16777216 then some (.ef (.bsl e i.size len (rf z.cells.toList len) (ps.toList.map (·.1))) (ps.toList.map (·.2)))else none
   |none=>none
  |none=>none
 |_=>none
def ab6(P:Program)(t u:TypeId)(x y:Operand):Option K:=match P.underlying t,P.underlying u with
 |some (.slice e),some (.slice _)=>match P.info? e with
  |some i=>match i.zero with
   |some z=>if z.cells.size=i.size/\0<i.bytes/\t=u then some (.ef (.app e i.size i.bytes z.cells.toList) [x,y])else none
   |none=>none
  |none=>none
 |some (.slice e),some .string=>match P.info? e with
  |some i=>match i.zero with
   |some (.int .u8 0)=>if i.size=1/\i.bytes=1 then some (.ef (.apps e) [x,y])else none
   |_=>none
  |none=>none
 |_,_=>none
def ab7(P:Program)(t:TypeId)(l c:Operand):Option K:=match P.underlying t with
 |some (.slice e)=>match P.info? e with
  |some i=>match i.zero with
   |some z=>if z.cells.size=i.size/\0<i.bytes then some (.ef (.mks e i.size i.bytes z.cells.toList) [l,c])else none
   |none=>none
  |none=>none
 |_=>none
def akB:TypeDesc->Bool| .int _| .string| .bool=>true|_=>false
def kcT(P:Program)(t:TypeId):Option Kc:=match P.underlying t with
 |some (.int k)=>some (.int k)
 |some .string=>some .str
 |some .bool=>some .bool
 |_=>none
def XI(P:Program)(k:TypeId):Bool:=match P.underlying k with|some (.array _ _)|some (.struct _)=>true|_=>false
def PY(P:Program)(k:TypeId):Option (List Kc):=
 if XI P k=true/\P.keyType k=true/\P.keyTypeAt 3 k=true/\P.tiled 3 k=true/\1<=P.types.size then
  match P.underlying k with
  | some (.struct fs) => if fs.toList.map (·.offset) = List.range fs.toList.length /\ P.cellsOf k = fs.toList.length /\ fs.toList.all (λf => decide (P.cellsOf f.type = 1)) = true /\ fs.all (·.name != "_") = true then fs.toList.mapM (λf => kcT P f.type) else none
  |some (.array n e)=>if P.cellsOf k=n/\P.cellsOf e=1 then(kcT P e).map (List.replicate n)else none
  |_=>none
 else none
mutual
def Ig(P:Program):Nat->TypeId->Option (List Kc)
 |0,_=>none
 |d+1,t=>match P.underlying t with
  |some (.int k)=>some [.int k]
  |some .string=>some [.str]
  |some .bool=>some [.bool]
  |some (.array n e)=>match Ig P d e with
   |some l=>if P.cellsOf e=l.length/\P.cellsOf t=n*l.length then some (List.replicate n l).flatten else none
   |none=>none
  | some (.struct fs) => if fs.all (·.name != "_") = true then match PZ P d 0 fs.toList with
    |some l=>if P.cellsOf t=l.length then some l else none
    |none=>none
   else none
  |_=>none
def PZ(P:Program):Nat->Nat->List Field->Option (List Kc)
 |_,_,[]=>some []
 |0,_,_::_=>none
 |d+1,o,f::fs=>match Ig P d f.type with
  |some l=>if f.offset=o/\P.cellsOf f.type=l.length then(PZ P d (o+l.length) fs).map (l++ ·)else none
  |none=>none
end
def ab8(P:Program)(k:TypeId):Option (List Kc):=
 if XI P k=true/\P.keyType k=true/\P.keyTypeAt 8 k=true/\P.tiled 8 k=true/\20<=P.types.size then Ig P 20 k else none
def Qa(P:Program)(k:TypeId):Option (List Kc):=match PY P k with|some l=>some l|none=>ab8 P k
def Uw(P:Program)(t:TypeId)(x i:Operand)(ok:Bool):Option K:=match P.underlying t with
 |some (.map kt et)=>match P.underlying kt,(P.info? et).bind (·.zero)with
  |some d,some z=>if akB d then some (.ef (.look d z ok) [x,i])else(Qa P kt).map λks=> .ef (.lookG ks z ok) [x,i]
  |_,_=>none
 |_=>none
def XJ(P:Program)(t:TypeId)(m k v:Operand):Option K:=match P.underlying t with
 |some (.map kt _)=>match P.underlying kt with
  |some d=>if akB d then some (.ef (.mput d) [m,k,v])else(Qa P kt).map λks=> .ef (.mputG ks) [m,k,v]
  |none=>none
 |_=>none
def ab9(P:Program)(t:TypeId)(x:Operand):Option K:=match P.underlying t with
 |some (.interface _)=>none
 |some _=>some (.q1 (.mki t) x)
 |none=>none
def Qb(P:Program)(t:TypeId)(name:String):Option FuncId:=match P.info? t with
 |some i=>match i.methods.find? (·.name == name)with
  |some m=>if m.path.isEmpty then(match m.func with
   |some (f,p)=>(match P.underlying t with
    |some (.pointer _)=>if p then some f else none
    |some _=>if p then none else some f
    |none=>none)
   |none=>none)else none
  |none=>none
 |none=>none
def ai3(P:Program)(name:String):List (TypeId×FuncId):=(List.range P.types.size).filterMap λt=>(Qb P t name).map (t,·)
def Nb(P:Program)(t:TypeId)(x:Operand)(f:Nat):Option K:=
 (Ex P t f).bind λfl=>match Cj P fl.type,sH P fl.type with
  |some true,some n=>some (.q1 (.partn fl.offset n) x)
  |some false,some _=>some (.q1 (.part fl.offset) x)
  |_,_=>none
def aca(P:Program)(t:TypeId):Option (Nat×TypeId×Nat×Bool):=match P.underlying t with
 |some (.array n e)=>(match sH P e,Cj P e with|some sz,some a=>some (n,e,sz,a)|_,_=>none)
 |_=>none
def Nc(P:Program)(t:TypeId)(x i:Operand):Option K:=match xN P t with
 | .str=>some (.q2 .idxS x i)
 |_=>match aca P t with
  |some (n,_,sz,a)=>if a || sz == 1 then some (.q2 (.idxR n sz a) x i)else none
  |none=>none
def zN(P:Program)(t:TypeId)(x i:Operand):Option K:=match xN P t with
 | .slice n=>some (.q2 (.idxA n) x i)
 |_=>match aca P t with
  |some (n,_,sz,_)=>some (.q2 (.idxP n sz) x i)
  |none=>none
def Nf(P:Program)(t:TypeId)(x:Operand)(lo hi mx:Option Operand):Option K:=match xN P t,mx with
 | .str,none=>match lo,hi with
  |some l,some h=>some (.q3 .sub x l h)
  |some l,none=>some (.q2 .subLo x l)
  |none,some h=>some (.q2 .subHi x h)
  |none,none=>none
 | .slice n,none=>match lo,hi with
  |some l,some h=>some (.q3 (.cut n) x l h)
  |some l,none=>some (.q2 (.cutLo n) x l)
  |none,some h=>some (.q2 (.cutHi n) x h)
  |none,none=>none
 |_,none=>match aca P t with
  |some (n,_,sz,_)=>match lo,hi with
   |some l,some h=>some (.q3 (.cutP n sz) x l h)
   |some l,none=>some (.q2 (.cutPL n sz) x l)
   |none,some h=>some (.q2 (.cutPH n) x h)
   |none,none=>some (.q1 (.arr n) x)
  |none=>none
 |_,_=>none
def Ng(P:Program)(t:TypeId)(parts:Array (Nat×Operand)):Option K:=match P.info? t,P.underlying t with
 |some it,some (.struct fields)=>match it.zero,fields.toList.mapM (λf=>(P.info? f.type).map λi=>(f.offset,i.size))with
  |some z,some places=>if parts.toList.all (λp=>(places.toArray[p.1]?).isSome)then
    some (.bld z.cells (parts.toList.map λp=>(((places.toArray[p.1]?).getD (0,0)).1,((places.toArray[p.1]?).getD (0,0)).2,p.2)))else none
  |_,_=>none
 |some it,some (.array _ e)=>match it.zero,P.info? e with
  |some z,some ie=>some (.bld z.cells (parts.toList.map λp=>(p.1*ie.size,ie.size,p.2)))
  |_,_=>none
 |_,_=>none
def acb(P:Program)(t:TypeId)(x y:Operand):Option K:=match P.underlying t with
 |some (.slice e)=>(sH P e).map λsz=> .ef (.cpy sz) [x,y]
 |_=>none
def Ux(P:Program)(c:Call):Option K:=match c.callee with
 | .builtin .len=>match c.args.toList,c.argTypes.toList with
  |[x],[t]=>match xN P t with
   | .str=>some (.q1 .lens x)
   | .slice _=>some (.q1 .len x)
   |_=>match P.underlying t with
    |some (.map _ _)=>some (.ef .lenm [x])
    |_=>none
  |_,_=>none
 | .builtin .cap=>match c.args.toList,c.argTypes.toList with
  |[x],[t]=>match xN P t with
   | .slice _=>some (.q1 .cap x)
   |_=>none
  |_,_=>none
 | .builtin .append=>match c.args.toList,c.argTypes.toList with
  |[x,y],[t,u]=>ab6 P t u x y
  |_,_=>none
 | .builtin .copy=>match c.args.toList,c.argTypes.toList with
  |[x,y],[t,_]=>acb P t x y
  |_,_=>none
 | .builtin .min=>match c.args.toList with
  |[x,y]=>some (.q2 (.mm false) x y)
  |_=>none
 | .builtin .max=>match c.args.toList with
  |[x,y]=>some (.q2 (.mm true) x y)
  |_=>none
 | .value (.func f)=>some (.ef (.call f) c.args.toList)
 | .value f=>some (.ef .callv (f::c.args.toList))
 | .invoke r name=>some (.ef (.inv (ai3 P name)) (r::c.args.toList))
 |_=>none
def Nh(P:Program)(t:TypeId):Option K:=(ab1 P t).map λz=> .ef (.alloc t z) []
def Nj(P:Program)(t:TypeId)(a x:Operand):Option K:=(sH P t).map λn=> .ef (.store n) [a,x]
def pE:Option K->Option K|some k=>some k|none=>some (.ef .dead [])
def tr(P:Program)(o:Oper):Option K:=match o.op with
 | .move x=>ab2 x
 | .assign x=>some (.asg x)
 | .pick c a b=>ab3 c a b
 | .nilCheck x=>aht x
 | .fieldAddr s x f=>pE (zM P s x f)
 | .load t x=>pE (Uu P t x)
 | .binOp op t x y _=>(match ab4 P op t x y with|some k=>some k|none=>pE (Ie P op t x y))
 | .unOp op _ x=>pE (ai2 op x)
 | .convert s d x=>pE (Uv P s d x)
 | .extract x i=>some (.q1 (.ext i) x)
 | .field t x f=>pE (Nb P t x f)
 | .index t x i=>pE (Nc P t x i)
 | .indexAddr t x i=>pE (zN P t x i)
 | .slice t x lo hi mx=>pE (Nf P t x lo hi mx)
 | .build t ps=>pE (Ng P t ps)
 | .call c=>pE (Ux P c)
 | .box t x=>some (.ef (.box t) [x])
 | .alloc t=>pE (Nh P t)
 | .store t a x=>pE (Nj P t a x)
 | .buildSlice t n ps=>pE (ab5 P t n ps)
 | .makeSlice t l c=>pE (ab7 P t l c)
 | .makeInterface t x=>pE (ab9 P t x)
 | .makeFunc fn first cap=>some (.ef (.mkf fn first.size) (first.toList++cap.toList))
 | .makeMap _ none=>some (.ef .mkm [])
 | .panic x=>some (.ef .pnc [x])
 | .lookup t x i ok=>pE (Uw P t x i ok)
 | .mapUpdate t m k v=>pE (XJ P t m k v)
 | .insert t m k v=>pE (XJ P t m k v)
 |_=>some (.ef .dead [])
end
end Go.Ev
namespace Go.Ev
section
variable {P:Program} {o:Oper} {k:K} {t s d:TypeId} {x y z:Operand}
theorem kr{ρ:Operand->Value}{op:Op}(ho:o.op=op):execOp ρ o=execOp ρ {o with op:=op}:=by subst ho;rfl
theorem Zj(ho:o.op= .move x)(h:ab2 x=some k):pO P o k:=by
 cases h;intro ρ w _;rw[kr ho];rfl
theorem acd(ho:o.op= .assign x):pO P o (.asg x):=by
 intro ρ w;rw[kr ho];rfl
theorem Zk(ho:o.op= .pick x y z)(h:ab3 x y z=some k):pO P o k:=by
 cases h;intro ρ w hs;rw[kr ho]
 cases hx:ρ x<;>simp [s3,qC,hx]at hs
 rename_i b
 cases b<;>simp [execOp,hx,asBool,v3,tb]
theorem ace(ho:o.op= .nilCheck x)(h:aht x=some k):pO P o k:=by
 cases h;intro ρ w hs;rw[kr ho]
 cases hx:ρ x<;>simp only[hx,s1]at hs
 rename_i p
 cases p<;>simp_all [execOp,v1]
theorem Ih{f:Nat}(ho:o.op= .fieldAddr s x f)(h:zM P s x f=some k):pO P o k:=by
 unfold zM at h
 cases hf:Ex P s f with
 |none=>simp [hf]at h
 |some fl=>
  simp only[hf,fO]at h
  split at h<;>try (cases h;done)
  rename_i n hn
  cases h
  intro ρ w hs
  rw[kr ho]
  obtain⟨fs,h1,h2⟩:=Fz hf
  cases hx:ρ x<;>simp only[hx,s1]at hs
  rename_i p
  cases p with
  |none=>simp at hs
  |some a=>simp [execOp,hx,v1,Instr.fieldAt,xu h1,h2,Instr.sureAddr,fieldPlace,PX hn]
theorem Zl(b o n:Nat):Addr.add ⟨b,o,none⟩ n=⟨b,o+n,none⟩:=Addr.add_lit b o n
theorem Zm(ho:o.op= .load t x)(h:Uu P t x=some k):pO P o k:=by
 unfold Uu at h
 split at h<;>try (cases h;done)
 ·rename_i n h1 h2
  cases h
  intro ρ w hs
  rw[kr ho]
  simp only[s1]at hs
  split at hs<;>try (exact hs.elim)
  rename_i b o hx
  have hl:=run_loadCells (P:=P) (w:=w) ⟨b,o,none⟩ n (λj=>hv w.heap b (o+j)) (λj hj=>by rw[Zl,pY];exact wT (by omega))
  simp only[execOp,hx,v1,Instr.loadAt,Instr.sureAddr,loadVar,Sem.run_bind,Sem.run_pure,Result.andThen_ok,agg h1,PX h2,bv,hl]
  rfl
 ·rename_i n h1 h2
  cases h
  intro ρ w hs
  rw[kr ho]
  simp only[s1]at hs
  split at hs<;>try (exact hs.elim)
  rename_i b o hx
  simp [execOp,hx,v1,Instr.loadAt,Instr.sureAddr,loadVar,agg h1,pY,wT hs]
theorem afP{op:UnOp}(ho:o.op= .unOp op t x)(h:ai2 op x=some k):pO P o k:=by
 unfold ai2 at h
 split at h<;>try (cases h;done)
 ·cases h;intro ρ w hs;rw[kr ho]
  cases hx:ρ x<;>simp [hx,s1,qC]at hs
  simp [execOp,hx,v1,Op.unary,tb]
 ·cases h;intro ρ w hs;rw[kr ho]
  cases hx:ρ x<;>simp [hx,s1,kS]at hs
  simp [execOp,hx,v1,Op.unary,ti,tk,Op.intArith]
 ·cases h;intro ρ w hs;rw[kr ho]
  cases hx:ρ x<;>simp [hx,s1,kS]at hs
  simp only[execOp,hx,v1,Op.unary,ti,tk,Op.intBits,xM];rfl
theorem kX{a:Act}{w w':World}{next:Act->World->Prop}{Q:Exit->Act->World->Prop}{v:Value}(h:(execOp a.eval o).run P w= .ok (.value v) w')(hn:next (a.put o.dst v) w'):o.wp P a w next Q:=by
 unfold Oper.wp;rw[h];exact hn
theorem Ii: ∀(l:List UInt8) (s:ByteArray),(l.map λc=>(c.toNat:Int)).foldl (fun(r:ByteArray) n=>r.push (UInt8.ofNat n.toNat)) s=⟨(s.data.toList++l).toArray⟩
 |[],s=>by simp
 |c::l,s=>by
  simp only[aS,bN]
  rw[Ii l]
  simp
theorem Zn(ho:o.op= .convert s d x)(h:Uv P s d x=some k):pO P o k:=by
 unfold Uv at h
 split at h<;>try (cases h;done)
 ·rename_i k' k h1 h2
  cases h;intro ρ w hs;rw[kr ho]
  cases hx:ρ x<;>simp [hx,s1,kS]at hs
  simp [execOp,hx,v1,convert,xu h1,xu h2,Conv.intToInt,ti]
 ·rename_i e h1 h2
  split at h<;>try (cases h;done)
  rename_i h3
  cases h
  intro G hG a w next Q K KP hf hn _
  simp only[aS,bK,qp]at hf
  have hc: ∀b n c,(convert s d (.slice b n c)).run P w=(Conv.bytesToString (.slice b n c)).run P w:=λb n c=>run_convert_bytes_string w s d e b n c h1 h3 h2
  split at hf<;>try (exact hf.elim)
  ·rename_i n c hx
   refine kX (w':=w) (v:=str []) ?_ (hn _ _ (.refl w) hf)
   rw[kr ho]
   simp only[execOp,hx,Sem.run_bind,hc]
   rfl
  ·rename_i b o' n c hx
   obtain⟨h4,l,h5,hK⟩:=hf
   refine kX (w':=w) (v:=str l) ?_ (hn _ _ (.refl w) hK)
   rw[kr ho]
   have hl:=run_loadCells (P:=P) (w:=w) ⟨b,o',none⟩ n (λj=>hv w.heap b (o'+j)) (λj hj=>by rw[Addr.add_lit,pY];exact wT (by omega))
   have hl2:(loadCells ⟨b,o',none⟩ n).run P w= .ok ((l.map λc=>(c.toNat:Int)).map (Value.int .u8)).toArray w:=by
    rw[hl];congr 2;unfold qV at h5;rw[h5,eG];rfl
   simp only[execOp,hx,Sem.run_bind,hc,run_bytesToString w _ n c _ hl2,Ii]
   rfl
 ·rename_i e h1 h2
  split at h<;>try (cases h;done)
  rename_i h3
  cases h
  intro G hG a w next Q K KP hf hn _
  simp only[aS,bK,qp]at hf
  obtain⟨hs,hl,hK⟩:=hf
  cases hx:a.eval x<;>simp [hx,qJ]at hs
  rename_i s'
  have hz:(bl (Value.string s')).length=s'.size:=by show s'.data.toList.length=s'.size;rw[dm];rfl
  rw[hx,hz]at hK
  rw[hx,hz]at hl
  have hr:=run_bytes_of_string (P:=P) w s d e s' h1 h2 h3
  have hK':=hK (grownCap w s'.size 0 e) (grownCap_ge w s'.size 0 e) (grownCap_le_maxLen w s'.size 0 e (aT hl (by decide)))
  have hex:(execOp a.eval o).run P w= .ok (.value (.slice (some ⟨w.heap.size,0,none⟩) s'.size (grownCap w s'.size 0 e))) (w.drew.alloc (.cells (bytesRow s' (grownCap w s'.size 0 e)) e ((bytesRow s' (grownCap w s'.size 0 e)).size,(bytesRow s' (grownCap w s'.size 0 e)).size+1))):=by
   rw[kr ho]
   simp only[execOp,hx,Sem.run_bind,hr]
   rfl
  refine kX hex (hn _ _ ⟨rfl,rfl,rfl⟩ ?_)
  ·have e1:bytesRow s' (grownCap w s'.size 0 e)=(((bl (Value.string s')).map sG)++List.replicate (grownCap w s'.size 0 e - s'.size) (Value.int .u8 0)).toArray:=by
    unfold bytesRow
    apply bQ.1
    simp [bl,sG]
   have e2:(bytesRow s' (grownCap w s'.size 0 e)).size=grownCap w s'.size 0 e:=by
    rw[e1,fI,ay,aU,hz,fM]
    have:=grownCap_ge w s'.size 0 e
    omega
   show K _ (w.heap.push (.cells (bytesRow s' (grownCap w s'.size 0 e)) e ((bytesRow s' (grownCap w s'.size 0 e)).size,(bytesRow s' (grownCap w s'.size 0 e)).size+1)))
   rw[e2,e1];exact hK'
theorem acf{i:Nat}(ho:o.op= .extract x i):pO P o (.q1 (.ext i) x):=by
 intro ρ w hs;rw[kr ho]
 cases hx:ρ x<;>simp only[hx,s1]at hs
 simp [execOp,hx,v1,Instr.extract,hs]
theorem Uy{f:Nat}(ho:o.op= .field t x f)(h:Nb P t x f=some k):pO P o k:=by
 unfold Nb at h
 cases hf:Ex P t f with
 |none=>simp [hf]at h
 |some fl=>
  simp only[hf,fO]at h
  obtain⟨fs,h1,h2⟩:=Fz hf
  split at h<;>try (cases h;done)
  ·rename_i n h3 h4
   cases h;intro ρ w hs;rw[kr ho]
   cases hx:ρ x<;>simp only[hx,s1]at hs
   simp [execOp,hx,v1,Instr.field,xu h1,h2,part,agg h3,PX h4,asAgg]
  ·rename_i n h3 h4
   cases h;intro ρ w hs;rw[kr ho]
   cases hx:ρ x<;>simp only[hx,s1]at hs
   simp [execOp,hx,v1,Instr.field,xu h1,h2,part,agg h3,asAgg,hs]
theorem acg(a b:ByteArray):(a.toList == b.toList)=decide (a.data.toList=b.data.toList):=by
 rw[Lib.toList_data,Lib.toList_data];exact bS.2 (by simp)
theorem ach{op:BinOp}{yt:TypeId}(ho:o.op= .binOp op t x y yt)(h:ab4 P op t x y=some k):pO P o k:=by
 unfold ab4 at h
 have key:XH op=true->pO P o (.q2 (.bin op) x y):=by
  intro hok ρ w hs
  rw[kr ho]
  simp only[s2]at hs
  split at hs<;>try (exact hs.elim)
  ·rename_i k' a hx
   obtain⟨h1,h2,h3,h4⟩:=hs
   cases hy:ρ y<;>simp [hy,kS]at h1
   rename_i k2 b
   simp only[hy,tk]at h2;subst h2
   simp only[execOp,hx,hy,v2]
   cases op<;>simp_all [XH,eqGuard,binOp,Op.intArith,Op.intDiv,Op.intCmp,wU,ab0,akx,ti]<;>first|rfl|exact bS.2 (by simp)
  ·rename_i a hx
   obtain⟨h1,h2⟩:=hs
   cases hy:ρ y<;>simp [hy,qJ]at h1
   rename_i b
   simp only[execOp,hx,hy,v2]
   cases op<;>simp_all [XH,eqGuard,binOp,Op.stringOp,tN,aky,bl,acg]
   case add=>
    rw[af (by omega)]
    simp only[str,Result.ok.injEq,Next.value.injEq,Value.string.injEq,aC]
    obtain⟨⟨a⟩⟩:=a;obtain⟨⟨b⟩⟩:=b
    rfl
   all_goals simp only[Lib.toList_data]
 split at h
 ·split at h
  ·rename_i hk hb;cases h;exact key hb
  ·cases h
 ·split at h
  ·rename_i hk hb;cases h;exact key hb
  ·cases h
 ·rename_i hk
  have hu:=Zi hk
  split at h<;>try (cases h;done)
  ·cases h;intro ρ w hs;rw[kr ho]
   obtain⟨h1,h2⟩:=hs
   cases hx:ρ x<;>simp [hx,qC]at h1
   cases hy:ρ y<;>simp [hy,qC]at h2
   rename_i b1 b2
   cases b1<;>cases b2<;>simp [execOp,hx,hy,v2,eqGuard,binOp,run_equal_bool w t _ _ hu,tb]
  ·cases h;intro ρ w hs;rw[kr ho]
   obtain⟨h1,h2⟩:=hs
   cases hx:ρ x<;>simp [hx,qC]at h1
   cases hy:ρ y<;>simp [hy,qC]at h2
   rename_i b1 b2
   cases b1<;>cases b2<;>simp [execOp,hx,hy,v2,eqGuard,binOp,run_equal_bool w t _ _ hu,tb]
 ·cases h
theorem Qc(s:ByteArray)(i:Nat)(hi:i<s.size):s[i]? =some (s.data.toList.getD i 0):=by
 obtain⟨⟨l⟩⟩:=s
 have:i<l.length:=hi
 show(if h:i<(⟨⟨l⟩⟩:ByteArray).size then some _ else none)=_
 rw[dif_pos hi]
 simp [aG,bf this]
 rfl
theorem Ij{n sz:Nat}{e:TypeId}{a:Bool}(h:aca P t=some (n,e,sz,a)):P.underlying t=some (.array n e)/\sH P e=some sz/\Cj P e=some a:=by
 unfold aca at h
 split at h<;>try (cases h;done)
 rename_i n' e' hu
 split at h<;>try (cases h;done)
 rename_i hz ha
 cases h
 exact⟨hu,hz,ha⟩
theorem Uz{i:Operand}(ho:o.op= .index t x i)(h:Nc P t x i=some k):pO P o k:=by
 unfold Nc at h
 split at h<;>try (cases h;done)
 ·rename_i hk
  have hu:=Ic hk
  cases h;intro ρ w hs;rw[kr ho]
  obtain⟨h1,h2,h3,h4⟩:=hs
  cases hx:ρ x<;>simp [hx,qJ]at h1
  cases hy:ρ i<;>simp [hy,kS]at h2
  rename_i s k' n
  simp only[hx,hy,ti,bl,<-Lib.size_eq]at h3 h4
  simp [execOp,hx,hy,v2,Instr.index,asIntOf,xu hu,h3,ti,bl,Qc s n.toNat (by omega)]
 ·split at h<;>try (cases h;done)
  rename_i n e sz a hk
  obtain⟨hu,hz,ha⟩:=Ij hk
  split at h<;>try (cases h;done)
  rename_i has
  cases h;intro ρ w hs;rw[kr ho]
  simp only[s2]at hs
  split at hs<;>try (exact hs.elim)
  rename_i cs hx
  obtain⟨h1,h2,h3,h4⟩:=hs
  cases hy:ρ i<;>simp [hy,kS]at h1
  simp only[hy,ti]at h2 h3 h4
  cases a with
  |true=>simp [execOp,hx,hy,v2,Instr.index,asIntOf,xu hu,h2,h3,ti,PX hz,part,agg ha]
  |false=>
   have hs1:sz=1:=by simpa using has
   subst hs1
   simp only[dz]at h4
   simp [execOp,hx,hy,v2,Instr.index,asIntOf,xu hu,h2,h3,ti,PX hz,part,agg ha,h4]
theorem Ik{i:Operand}(ho:o.op= .indexAddr t x i)(h:zN P t x i=some k):pO P o k:=by
 unfold zN at h
 split at h<;>try (cases h;done)
 ·rename_i n hk
  obtain⟨e,hu,hz⟩:=yI hk
  cases h;intro ρ w hs;rw[kr ho]
  simp only[s2]at hs
  split at hs<;>try (exact hs.elim)
  rename_i a len cap hx
  obtain⟨h1,h2,h3⟩:=hs
  cases hy:ρ i<;>simp [hy,kS]at h1
  simp only[hy,ti]at h2 h3
  simp [execOp,hx,hy,v2,Instr.indexAt,asIntOf,xu hu,h2,h3,ti,PX hz]
 ·split at h<;>try (cases h;done)
  rename_i n e sz a hk
  obtain⟨hu,hz,ha⟩:=Ij hk
  cases h;intro ρ w hs;rw[kr ho]
  simp only[s2]at hs
  split at hs<;>try (exact hs.elim)
  rename_i a hx
  obtain⟨h1,h2,h3⟩:=hs
  cases hy:ρ i<;>simp [hy,kS]at h1
  simp only[hy,ti]at h2 h3
  simp [execOp,hx,hy,v2,Instr.indexAt,asIntOf,xu hu,h2,h3,ti,PX hz,Instr.sureAddr]
theorem zQ(s:ByteArray)(i j:Nat):(.string (s.extract i j):Value)=str ((s.data.toList.take j).drop i):=by
 simp only[str,Value.string.injEq]
 rw[Lib.extract_eq,List.drop_take]
theorem oD{v:Value}{y:Nat}{c:BoundsCode}{w:World}(h1:kS v=true)(h2:0<=ti v)(h3:ti v<=y):(Instr.sliceBound v y c).run P w= .ok (ti v).toNat w:=by
 cases v<;>simp [kS]at h1
 simp only[ti]at h2 h3 ⊢
 simp [Instr.sliceBound,asIntOf,h2,h3]
theorem UA{lo hi mx:Option Operand}(ho:o.op= .slice t x lo hi mx)(h:Nf P t x lo hi mx=some k):pO P o k:=by
 unfold Nf at h
 split at h<;>try (cases h;done)
 ·rename_i hk
  have hu:=Ic hk
  split at h<;>try (cases h;done)
  ·rename_i l hh
   cases h;intro ρ w hs;rw[kr ho]
   obtain⟨h1,h2,h3,h4,h5,h6⟩:=hs
   cases hx:ρ x<;>simp [hx,qJ]at h1
   simp only[hx,bl,<-Lib.size_eq]at h6
   have e1:=λc=>oD (P:=P) (w:=w) (c:=c) h3 (by omega) h6
   have e2:=λc=>oD (P:=P) (w:=w) (c:=c) h2 h4 (y:=(ti (ρ hh)).toNat) (by omega)
   simp [execOp,hx,v3,Instr.sliceAt,Instr.slice,Instr.sliceBounds,xu hu,bl,e1,e2,zQ]
  ·cases h;intro ρ w hs;rw[kr ho]
   obtain⟨h1,h2,h3,h4⟩:=hs
   cases hx:ρ x<;>simp [hx,qJ]at h1
   simp only[hx,bl,<-Lib.size_eq]at h4
   simp [execOp,hx,v2,Instr.sliceAt,Instr.slice,Instr.sliceBounds,xu hu,bl,oD h2 h3 h4,zQ]
   rw[cB (by rw[<-Lib.size_eq];omega)]
  ·cases h;intro ρ w hs;rw[kr ho]
   obtain⟨h1,h2,h3,h4⟩:=hs
   cases hx:ρ x<;>simp [hx,qJ]at h1
   simp only[hx,bl,<-Lib.size_eq]at h4
   simp [execOp,hx,v2,Instr.sliceAt,Instr.slice,Instr.sliceBounds,xu hu,bl,oD h2 h3 h4,zQ]
 ·rename_i n hk
  obtain⟨e,hu,hz⟩:=yI hk
  split at h<;>try (cases h;done)
  ·rename_i l hh
   cases h;intro ρ w hs;rw[kr ho]
   simp only[s3]at hs
   split at hs<;>try (exact hs.elim)
   rename_i a len cap hx
   obtain⟨h1,h2,h3,h4,h5⟩:=hs
   have e1:=λc=>oD (P:=P) (w:=w) (c:=c) h2 (by omega) h5
   have e2:=λc=>oD (P:=P) (w:=w) (c:=c) h1 h3 (y:=(ti (ρ hh)).toNat) (by omega)
   simp [execOp,hx,v3,Instr.sliceAt,Instr.slice,Instr.sliceBounds,xu hu,PX hz,e1,e2]
  ·cases h;intro ρ w hs;rw[kr ho]
   simp only[s2]at hs
   split at hs<;>try (exact hs.elim)
   rename_i a len cap hx
   obtain⟨h1,h2,h3⟩:=hs
   simp [execOp,hx,v2,Instr.sliceAt,Instr.slice,Instr.sliceBounds,xu hu,PX hz,oD h1 h2 h3]
  ·cases h;intro ρ w hs;rw[kr ho]
   simp only[s2]at hs
   split at hs<;>try (exact hs.elim)
   rename_i a len cap hx
   obtain⟨h1,h2,h3⟩:=hs
   simp [execOp,hx,v2,Instr.sliceAt,Instr.slice,Instr.sliceBounds,xu hu,PX hz,oD h1 h2 h3,Addr.add]
 ·split at h<;>try (cases h;done)
  rename_i n e sz a hk
  obtain⟨hu,hz,ha⟩:=Ij hk
  split at h
  ·rename_i l hh
   cases h;intro ρ w hs;rw[kr ho]
   simp only[s3]at hs
   split at hs<;>try (exact hs.elim)
   rename_i b o' hx
   obtain⟨h1,h2,h3,h4,h5⟩:=hs
   have e1:=λc=>oD (P:=P) (w:=w) (c:=c) h2 (by omega) h5
   have e2:=λc=>oD (P:=P) (w:=w) (c:=c) h1 h3 (y:=(ti (ρ hh)).toNat) (by omega)
   simp [execOp,hx,v3,Instr.sliceAt,Instr.sliceBounds,xu hu,PX hz,e1,e2,Instr.sureAddr]
  ·cases h;intro ρ w hs;rw[kr ho]
   simp only[s2]at hs
   split at hs<;>try (exact hs.elim)
   rename_i b o' hx
   obtain⟨h1,h2,h3⟩:=hs
   simp [execOp,hx,v2,Instr.sliceAt,Instr.sliceBounds,xu hu,PX hz,oD h1 h2 h3,Instr.sureAddr]
  ·cases h;intro ρ w hs;rw[kr ho]
   simp only[s2]at hs
   split at hs<;>try (exact hs.elim)
   rename_i b o' hx
   obtain⟨h1,h2,h3⟩:=hs
   simp [execOp,hx,v2,Instr.sliceAt,Instr.sliceBounds,xu hu,PX hz,oD h1 h2 h3,Instr.sureAddr,Addr.add_lit]
  ·cases h;intro ρ w hs;rw[kr ho]
   simp only[s1]at hs
   split at hs<;>try (exact hs.elim)
   rename_i b o' hx
   simp [execOp,hx,v1,Instr.sliceAt,Instr.sliceBounds,xu hu,PX hz,Instr.sureAddr,Addr.add_lit]
theorem Il(o:Nat): ∀(ls:List (Value×Nat)) (cs:Array Value),(ls.foldl (λcs p=>cs.setIfInBounds (o+p.2) p.1) cs).size=cs.size
 |[],_=>rfl
 |_::ys,cs=>by simp only[bN];rw[Il o ys];simp
theorem LD(cs:Array Value)(o:Nat)(v:Value):(zL cs o v).size=cs.size:=by
 unfold zL;rw[<-gm];exact Il o _ cs
theorem Ck(z:Array Value)(ρ:Operand->Value)(place:Nat->Option (Nat×Nat)): ∀(ps:List (Nat×Operand)) (l:List (Nat×Nat×Operand)) (cs:Array Value),cs.size=z.size->
  (∀p∈ps,(place p.1).isSome)->l=ps.map (λp=>(((place p.1).getD (0,0)).1,((place p.1).getD (0,0)).2,p.2))->
  (∀p∈l,(ρ p.2.2).cells.size=p.2.1/\p.1+p.2.1<=z.size)->
  Instr.fill place cs (ps.map λp=>(p.1,ρ p.2))=some (l.foldl (λcs p=>zL cs p.1 (ρ p.2.2)) cs)
 |[],l,cs,_,_,hl,_=>by subst hl;rfl
 |(i,x)::ps,l,cs,hcs,hp,hl,hok=>by
  subst hl
  have h0:=hp (i,x) (by simp)
  obtain⟨⟨o,n⟩,he⟩:=dC.1 h0
  have hk:=hok (o,n,x) (by simp only[aS,aH];left;simp only at he;simp [he])
  simp only[aS,Instr.fill,bN]
  simp only at he
  rw[he]
  simp only[bZ]
  rw[af (by have:=hk.1;have:=hk.2;simp only at*;rw[hcs];simp;omega)]
  have lS:(zL cs o (ρ x)).size=z.size:=by rw[LD,hcs]
  exact Ck z ρ place ps _ _ lS (λp hm=>hp p (by simp [hm])) rfl (λp hm=>hok p (by simp only[aS,aH];right;exact hm))
theorem UB{ps:Array (Nat×Operand)}(ho:o.op= .build t ps)(h:Ng P t ps=some k):pO P o k:=by
 unfold Ng at h
 split at h<;>try (cases h;done)
 case h_2 it n e hi hu=>
  split at h<;>try (cases h;done)
  rename_i z ie hz hie
  cases h;intro ρ w hs;rw[kr ho]
  have hb:P.built t (ps.map fun(i,x)=>(i,ρ x)).toList=some ((ps.toList.map λp=>(p.1*ie.size,ie.size,p.2)).foldl (λcs p=>zL cs p.1 (ρ p.2.2)) z.cells):=by
   unfold Program.built
   simp only[hi,hu,hz,hie,fD]
   exact Ck z.cells ρ (λi=>some (i*ie.size,ie.size)) ps.toList _ _ rfl (λ_ _=>rfl) rfl hs
  simp only[execOp,Sem.run_bind,run_build w t _ _ hb,Result.andThen_ok];rfl
 rename_i it fields hi hu
 split at h<;>try (cases h;done)
 rename_i z places hz hpl
 split at h<;>try (cases h;done)
 rename_i hall
 cases h;intro ρ w hs;rw[kr ho]
 have hb:P.built t (ps.map fun(i,x)=>(i,ρ x)).toList=some ((ps.toList.map λp=>(((places.toArray[p.1]?).getD (0,0)).1,((places.toArray[p.1]?).getD (0,0)).2,p.2)).foldl (λcs p=>zL cs p.1 (ρ p.2.2)) z.cells):=by
  unfold Program.built
  simp only[hi,hu,hz,hpl,fD]
  exact Ck z.cells ρ _ ps.toList _ _ rfl (λp hp=>(bI.1 hall) p hp) rfl hs
 simp only[execOp,Sem.run_bind,run_build w t _ _ hb,Result.andThen_ok];rfl
theorem aci(ho:o.op= .box t x):pO P o (.ef (.box t) [x]):=by
 intro G hG a w next Q K KP hf hn _
 simp only[aS,bK,qp]at hf
 refine kX (w':={w with heap:=w.heap.push (.cells (a.eval x).cells t)}) (by rw[kr ho];simp [execOp,Instr.box,newVar,newRow]) (hn _ _ ⟨rfl,rfl,rfl⟩ hf)
theorem UC(ho:o.op= .alloc t)(h:Nh P t=some k):pO P o k:=by
 unfold Nh at h
 cases hz:ab1 P t with
 |none=>simp [hz]at h
 |some z=>
  simp only[hz,bn,aQ]at h
  subst h
  unfold ab1 at hz
  cases hi:P.info? t with
  |none=>simp [hi]at hz
  |some it=>
   simp only[hi,fO]at hz
   cases hze:it.zero with
   |none=>simp [hze]at hz
   |some zv=>
    simp only[hze,bn,aQ]at hz
    intro G hG a w next Q K KP hf hn _
    simp only[bK,qp]at hf
    refine kX (w':={w with heap:=w.heap.push (.cells z t)}) (by rw[kr ho];simp [execOp,Instr.alloc,zeroValue,typeInfo,hi,hze,newVar,newRow,hz]) (hn _ _ ⟨rfl,rfl,rfl⟩ hf)
theorem Db(w:World)(b o:Nat)(v:Value):w.setCell ⟨b,o,none⟩ v={w with heap:=ky w.heap b o v}:=by
 unfold World.setCell ky
 simp only[cZ,aD,aW]
 congr 2
theorem Qd(w:World)(b o:Nat):w.frozen? ⟨b,o,none⟩=(decide ((tJ w.heap b).1<=o) && decide (o<(tJ w.heap b).2)):=by
 unfold World.frozen? tJ
 cases w.heap[b]? with
 |none=>simp
 |some x=>cases x<;>simp
theorem mW(h:H)(b o:Nat)(v:Value)(k:Nat):(ky h b o v)[k]? =if k=b then(h[b]?).map (fun| .cells c e f=> .cells (c.setIfInBounds o v) e f|x=>x)else h[k]? :=by
 unfold ky
 rw[jf]
 split
 ·rename_i hk;subst hk;rw[ah rfl]<;>(cases h[k]? <;>first|rfl|(rename_i x;cases x<;>rfl))
 ·rename_i hk;rw[af (gF hk)]
theorem Nk(h:H)(b o:Nat)(v:Value)(k:Nat):lS (ky h b o v) k=lS h k:=by
 unfold lS
 rw[mW]
 by_cases hk:k=b
 ·subst hk
  rw[ah rfl]
  cases h[k]? with
  |none=>rfl
  |some x=>cases x<;>simp
 ·rw[af hk]
theorem Nl(h:H)(b o:Nat)(v:Value)(k:Nat):tJ (ky h b o v) k=tJ h k:=by
 unfold tJ
 rw[mW]
 by_cases hk:k=b
 ·subst hk
  rw[ah rfl]
  cases h[k]? with
  |none=>rfl
  |some x=>cases x<;>simp
 ·rw[af hk]
theorem vZ(P:Program)(b:Nat): ∀(vs:List Value) (o i:Nat) (w:World),o+i+vs.length<=lS w.heap b->(o+i+vs.length<=(tJ w.heap b).1\/(tJ w.heap b).2<=o+i)->vs.all tV=true->
  (storeCells ⟨b,o,none⟩ vs i).run P w= .ok () {w with heap:=jW w.heap b (o+i) vs}
 |[],o,i,w,_,_,_=>rfl
 |v::r,o,i,w,h1,h2,h3=>by
  simp only[il,aM]at h3
  simp only[au]at h1 h2
  have hv:v.oneCell'=true:=by have:=h3.1;cases v<;>simp_all [tV,Value.oneCell']
  simp only[storeCells,Sem.run_bind,run_store P _ _ v _ hv,Zl,pY,wT (show o+i<lS w.heap b by omega)]
  rw[af (by rw[Qd];simp;omega),Db]
  simp only[Result.andThen_ok]
  rw[vZ P b r o (i+1) _ (by simp only[Nk];omega) (by simp only[Nl];omega) h3.2]
  rfl
theorem UD(ho:o.op= .store t x y)(h:Nj P t x y=some k):pO P o k:=by
 unfold Nj at h
 cases hz:sH P t with
 |none=>simp [hz]at h
 |some n=>
  simp only[hz,bn,aQ]at h
  subst h
  intro G hG a w next Q K KP hf hn _
  simp only[aS,bK,qp]at hf
  split at hf<;>try (exact hf.elim)
  rename_i b o' hx
  obtain⟨h1,h2,h3,h4,h5⟩:=hf
  have hr:=vZ P b (a.eval y).cells.toList o' 0 w (by simp;omega) (by simp;omega) h4
  have:(execOp a.eval o).run P w= .ok .skip {w with heap:=jW w.heap b o' (a.eval y).cells.toList}:=by
   rw[kr ho]
   simp [execOp,hx,Instr.storeAt,Instr.sureAddr,storeVar,PX hz,h1,hr]
  unfold Oper.wp;rw[this]
  exact hn undef {w with heap:=jW w.heap b o' (a.eval y).cells.toList} ⟨rfl,rfl,rfl⟩ h5
theorem Ey:pO P o (.ef .dead []):=by
 intro G hG a w next Q K KP hf hn hp
 exact hf.elim
theorem acj(ho:o.op= .makeInterface t x)(h:ab9 P t x=some k):pO P o k:=by
 unfold ab9 at h
 split at h<;>try (cases h;done)
 rename_i d hu hn
 cases h;intro ρ w hs;rw[kr ho]
 cases d<;>first|exact(hu _ rfl).elim|simp [execOp,Instr.makeInterface,xu hn,v1]
theorem ack{fn:Fn}{first cap:Array Operand}(ho:o.op= .makeFunc fn first cap):pO P o (.ef (.mkf fn first.size) (first.toList++cap.toList)):=by
 intro G hG a w next Q K KP hf hn hp
 simp only[qp]at hf
 refine kX (w':=w) (v:= .func fn (first.map a.eval) (cap.map a.eval)) (by rw[kr ho];simp [execOp,Instr.makeFunc]) (hn _ _ (.refl w) ?_)
 have e1:((List.map a.eval (first.toList++cap.toList)).take first.size).toArray=first.map a.eval:=by
  apply bQ.1;simp
 have e2:((List.map a.eval (first.toList++cap.toList)).drop first.size).toArray=cap.map a.eval:=by
  apply bQ.1;simp
 rw[e1,e2]at hf;exact hf
theorem Im(z:List Value)(n m:Nat)(h:m=n*z.length):(Array.range m).map (λi=>z.toArray[i % z.toArray.size]!)=(rf z n).toArray:=by
 subst h
 apply bQ.1
 simp only[fD,Array.toList_range,rf,fI]
 apply fE
 intro i hi
 rw[gD]at hi
 have hp:0<z.length:=by
  rcases Nat.eq_zero_or_pos z.length with h0|h0
  ·rw[h0]at hi;simp at hi
  ·exact h0
 have hlt:i % z.length<z.length:=Nat.mod_lt _ hp
 rw[getElem!_pos z.toArray (i % z.length) (by simpa using hlt),aG,bf hlt]
 simp
theorem acl{n:Int}(h1: -9223372036854775808<=n)(h2:n<=9223372036854775807):IntKind.i64.wrap n=n:=by
 rw[IntWalk.i64_left];exact IntWalk.wrap64_in n ⟨h1,h2⟩
theorem Io(sz len:Nat): ∀(ps:List (Nat×Value)) (cs:Array Value),cs.size=len*sz->Ci sz len ps->Instr.fill (λi=>some (i*sz,sz)) cs ps=some (rz sz cs.toList ps).toArray
 |[],cs,_,_=>by simp [Instr.fill,rz]
 |(i,v)::r,cs,hs,hp=>by
  obtain⟨h1,h2,h3⟩:=hp
  have hm:i*sz+sz<=len*sz:=by
   have:(i+1)*sz<=len*sz:=bU _ h2
   rw[dJ,jb]at this;exact this
  simp only[Instr.fill]
  rw[af (by simp only[dW,aL,ne_eq,not_or];omega)]
  have hz:(zL cs (i*sz) v).size=len*sz:=by rw[LD,hs]
  have:=Io sz len r (zL cs (i*sz) v) hz h3
  simp only[rz,jh]
  exact this
theorem acm{y:Operand}(ho:o.op= .makeSlice t x y)(h:ab7 P t x y=some k):pO P o k:=by
 unfold ab7 at h
 split at h<;>try (cases h;done)
 rename_i e hu
 split at h<;>try (cases h;done)
 rename_i i hi
 split at h<;>try (cases h;done)
 rename_i z hz
 split at h<;>try (cases h;done)
 rename_i hc
 obtain⟨hc1,hc2⟩:=hc
 cases h
 intro G hG a w next Q K KP hf hn hp
 simp only[aS,bK,qp]at hf
 obtain⟨h1,h2,h3,h4,h5,hK⟩:=hf
 cases hx:a.eval x<;>simp [hx,kS]at h1
 cases hy:a.eval y<;>simp [hy,kS]at h2
 rename_i k1 l k2 c
 simp only[hx,hy,ti]at h3 h4 h5 hK
 have hcb:c<=140737488355328:=by
  have:c*1<=c*(i.bytes:Int):=Int.mul_le_mul_of_nonneg_left (by omega) (by omega)
  omega
 have w1:IntKind.i64.wrap l=l:=acl (by omega) (by omega)
 have w2:IntKind.i64.wrap c=c:=acl (by omega) (by omega)
 have hm:(i.bytes:Int)*c<=140737488355328:=by rw[Int.mul_comm];exact h5
 have c1: ¬(281474976710656<(i.bytes:Int)*c):=by omega
 refine kX (w':={w with heap:=w.heap.push (.cells (rf z.cells.toList c.toNat).toArray e)}) (v:= .slice (some ⟨w.heap.size,0,none⟩) l.toNat c.toNat) ?_ (hn _ _ ⟨rfl,rfl,rfl⟩ hK)
 rw[kr ho]
 have hr:(Array.range (c.toNat*i.size)).map (λj=>(if c.toNat*i.size=0 then #[]else z.cells)[j % (if c.toNat*i.size=0 then #[]else z.cells).size]!)=(rf z.cells.toList c.toNat).toArray:=by
  by_cases h0:c.toNat*i.size=0
  ·rw[h0]
   have:(rf z.cells.toList c.toNat)=[]:=by unfold rf;rw[dm,hc1,h0];rfl
   rw[this];simp
  ·simp only[af h0]
   exact Im z.cells.toList c.toNat _ (by rw[dm,hc1])
 have hif: ¬(((c<0\/281474976710656<(i.bytes:Int)*c)\/l<0)\/c<l):=by omega
 have r0:Array.range 0= #[]:=rfl
 by_cases h0:c.toNat*i.size=0
 ·simp only[ah h0]at hr
  have hre:(rf z.cells.toList c.toNat)=[]:=by unfold rf;rw[dm,hc1,h0];rfl
  simp [execOp,hx,hy,Instr.makeSlice,xu hu,asInt,asIntOf,sizeOf,typeInfo,hi,w1,w2,h0,r0,newRow,hre,hif]
 ·simp only[af h0]at hr
  simp [execOp,hx,hy,Instr.makeSlice,xu hu,asInt,asIntOf,sizeOf,typeInfo,zeroValue,hi,hz,w1,w2,h0,hr,newRow,hif]
theorem acn{n:Nat}{ps:Array (Nat×Operand)}(ho:o.op= .buildSlice t n ps)(h:ab5 P t n ps=some k):pO P o k:=by
 unfold ab5 at h
 split at h<;>try (cases h;done)
 rename_i e hu
 split at h<;>try (cases h;done)
 rename_i i hi
 split at h<;>try (cases h;done)
 rename_i z hz
 split at h<;>try (cases h;done)
 rename_i hc
 obtain⟨hc1,hc2⟩:=hc
 cases h
 intro G hG a w next Q K KP hf hn hp
 simp only[qp]at hf
 obtain⟨h1,h2,hK⟩:=hf
 have hzip:(ps.toList.map (·.1)).zip (List.map a.eval (ps.toList.map (·.2)))=(ps.map λp=>(p.1,a.eval p.2)).toList:=by
  rw[fD,eG,List.zip_map']
  rfl
 rw[hzip]at h2 hK
 refine kX (w':={w with heap:=w.heap.push (.cells (rz i.size (rf z.cells.toList n) (ps.map λp=>(p.1,a.eval p.2)).toList).toArray e)}) (v:= .slice (some ⟨w.heap.size,0,none⟩) n n) ?_ (hn _ _ ⟨rfl,rfl,rfl⟩ hK)
 rw[kr ho]
 have hr:(Array.range (n*i.size)).map (λj=>(if n*i.size=0 then #[]else z.cells)[j % (if n*i.size=0 then #[]else z.cells).size]!)=(rf z.cells.toList n).toArray:=by
  by_cases h0:n*i.size=0
  ·rw[h0]
   have:(rf z.cells.toList n)=[]:=by unfold rf;rw[dm,hc1,h0];rfl
   rw[this];simp
  ·simp only[af h0]
   exact Im z.cells.toList n _ (by rw[dm,hc1])
 have hl:(rf z.cells.toList n).toArray.size=n*i.size:=by simp [rf,hc1]
 have hfl:=Io i.size n (ps.map λp=>(p.1,a.eval p.2)).toList (rf z.cells.toList n).toArray hl h2
 have hlt: ¬(16777216<n*i.size):=by omega
 simp only[fD]at hfl
 by_cases h0:n*i.size=0
 ·simp only[ah h0]at hr
  have hre:(rf z.cells.toList n).toArray= #[]:=Array.eq_empty_of_size_eq_zero (by rw[hl,h0])
  rw[hre]at hfl
  have r0:Array.range 0= #[]:=rfl
  simp [execOp,Instr.buildSlice,xu hu,sizeOf,typeInfo,hi,h0,r0,hfl,newRow]
 ·simp only[af h0]at hr
  simp [execOp,Instr.buildSlice,xu hu,sizeOf,typeInfo,zeroValue,hi,hz,hlt,h0,hr,hfl,newRow]
theorem afQ{n:Kn}(h:knT P t=some n):match n with
  | .ptr=> ∃e,P.underlying t=some (.pointer e)| .sl=> ∃e,P.underlying t=some (.slice e)| .map=> ∃a b,P.underlying t=some (.map a b)
  | .func=> ∃a b c,P.underlying t=some (.func a b c)| .iface=> ∃m,P.underlying t=some (.interface m):=by
 unfold knT at h
 split at h<;>first|(cases h;done)|(cases h;rename_i hu;exact⟨_,hu⟩)|(cases h;rename_i hu;exact⟨_,_,hu⟩)|(cases h;rename_i hu;exact⟨_,_,_,hu⟩)
theorem qd: ∀(l:List Kc) (xs:List Value),nk l xs=true->xs.length=l.length
 |[],[],_=>rfl
 |[],_::_,h=>by cases h
 |_::_,[],h=>by cases h
 |k::l,x::xs,h=>by
  simp only[nk,aM]at h
  simp only[au,qd l xs h.2]
theorem Dc: ∀(l m:List Kc) (xs:List Value),nk (l++m) xs=true->nk l (xs.take l.length)=true/\nk m (xs.drop l.length)=true
 |[],m,xs,h=>⟨rfl,h⟩
 |_::_,_,[],h=>by cases h
 |k::l,m,x::xs,h=>by
  simp only[aP,nk,aM]at h
  have:=Dc l m xs h.2
  simp only[au,dY,fU,nk,aM]
  exact⟨⟨h.1,this.1⟩,this.2⟩
theorem Nn: ∀(a b c d:List Value),a.length=b.length->HZ (a++c) (b++d)=(HZ a b && HZ c d)
 |[],[],_,_,_=>by simp [HZ]
 |[],_::_,_,_,h=>by cases h
 |_::_,[],_,_,h=>by cases h
 |x::a,y::b,c,d,h=>by
  simp only[aP,HZ]
  rw[Nn a b c d (by simpa using h),Bool.and_assoc]
def Zo(a:Bool)(xs:List Value):Value:=if a then .agg xs.toArray else xs.headD undef
theorem Ba{a:Bool}{n off:Nat}{X:List Value}{w:World}(ha:Cj P t=some a)(hz:sH P t=some n)(m:Nat)(hm:if a then n=m else m=1)(hl:a=false->off+m<=X.length):
  (part t X.toArray off).run P w= .ok (Zo a ((X.drop off).take m)) w:=by
 cases a with
 |true=>
  simp only[bv]at hm;subst hm
  simp only[part,Sem.run_bind,agg ha,PX hz,Result.andThen_ok,bv,Sem.run_pure,Zo,List.extract_toArray,List.extract_eq_take_drop,iN]
 |false=>
  simp only[aD,aW]at hm;subst hm
  have hlt:off<X.length:=by have:=hl rfl;omega
  have:X.toArray[off]? =some X[off]:=by simp [hlt]
  simp only[part,Sem.run_bind,agg ha,Result.andThen_ok,aD,aW,this,Sem.run_pure,Zo]
  rw[aN hlt];rfl
theorem Qe {e:TypeId} {l:List Kc} {a:Bool} {c m:Nat} (ha:Cj P e=some a) (hz:sH P e=some c) (hc:c=l.length) (ho:a=true\/l.length=1)
  (ih: ∀(xs ys:List Value) (w:World),nk l xs=true->nk l ys=true->(Op.equalIn m e (Zo a xs) (Zo a ys)).run P w= .ok (HZ xs ys) w) (X Y:List Value) (w:World):
  ∀(k s:Nat),nk (List.replicate k l).flatten (X.drop (s*c))=true->nk (List.replicate k l).flatten (Y.drop (s*c))=true->(Op.eqItems m e c X.toArray Y.toArray (List.range' s k)).run P w= .ok (HZ (X.drop (s*c)) (Y.drop (s*c))) w
 |0,s,hx,hy=>by
  have e1:X.drop (s*c)=[]:=bX (by rw[qd _ _ hx];rfl)
  have e2:Y.drop (s*c)=[]:=bX (by rw[qd _ _ hy];rfl)
  rw[e1,e2];simp [Op.eqItems,HZ]
 |k+1,s,hx,hy=>by
  rw[gY,List.flatten_cons]at hx hy
  obtain⟨x1,x2⟩:=Dc _ _ _ hx
  obtain⟨y1,y2⟩:=Dc _ _ _ hy
  rw[dS]at x2 y2
  have hs:(if a=true then c=l.length else l.length=1):=by
   cases a with
   |true=>exact hc
   |false=>rcases ho with q|q;cases q;exact q
  have lx:a=false->s*c+l.length<=X.length:=λh0=>by
   have h1:=qd _ _ x1
   rw[aR,bY]at h1
   rw[h0]at hs
   simp only[aD,aW]at hs
   omega
  have ly:a=false->s*c+l.length<=Y.length:=λh0=>by
   have h1:=qd _ _ y1
   rw[aR,bY]at h1
   rw[h0]at hs
   simp only[aD,aW]at hs
   omega
  rw[iJ]
  simp only[Op.eqItems,Sem.run_bind,Ba ha hz l.length hs lx,Ba ha hz l.length hs ly,Result.andThen_ok]
  rw[ih _ _ w x1 y1]
  simp only[Result.andThen_ok,Sem.run_ite]
  have e:=Nn ((X.drop (s*c)).take l.length) ((Y.drop (s*c)).take l.length) ((X.drop (s*c)).drop l.length) ((Y.drop (s*c)).drop l.length) (by rw[qd _ _ x1,qd _ _ y1])
  have e0:s*c+l.length=(s+1)*c:=by rw[fC,hc]
  rw[bV,bV,dS,dS,e0]at e
  rw[e0]at x2 y2
  rw[e,Qe ha hz hc ho ih X Y w k (s+1) x2 y2]
  cases HZ ((X.drop (s*c)).take l.length) ((Y.drop (s*c)).take l.length)<;>simp
theorem afR(d:Nat):(∀t l a m xs ys (w:World),LC P d t=some l->Cj P t=some a->d<=m->nk l xs=true->nk l ys=true->(Op.equalIn m t (Zo a xs) (Zo a ys)).run P w= .ok (HZ xs ys) w)/\
  (∀off fs l m (X Y:List Value) (w:World),FB P d off fs=some l->d<=m->nk l (X.drop off)=true->nk l (Y.drop off)=true->(Op.eqFields m X.toArray Y.toArray fs).run P w= .ok (HZ (X.drop off) (Y.drop off)) w):=by
 induction d with
 |zero=>
  refine⟨λt l a m xs ys w h=>by simp [LC]at h,λoff fs l m X Y w h hm hx hy=> ?_⟩
  cases fs with
  |cons f fs=>simp [FB]at h
  |nil=>
   simp only[FB,aQ]at h
   subst h
   have e1:X.drop off=[]:=bX (by rw[qd _ _ hx];rfl)
   have e2:Y.drop off=[]:=bX (by rw[qd _ _ hy];rfl)
   rw[e1,e2];simp [Op.eqFields,HZ]
 |succ d ih=>
  refine⟨λt l a m xs ys w h ha hm hx hy=> ?_,λoff fs l m X Y w h hm hx hy=> ?_⟩
  ·obtain⟨m,rfl⟩: ∃k,m=k+1:=⟨m - 1,by omega⟩
   unfold LC at h
   unfold Cj at ha
   split at h<;>try (cases h;done)
   ·rename_i k hu
    simp only[hu,bn,aQ]at ha
    cases h;subst ha
    match xs,ys,hx,hy with
    |[x],[y],hx,hy=>
     cases x<;>simp [nk,HV]at hx
     cases y<;>simp [nk,HV]at hy
     subst hx;subst hy
     simp [Zo,HZ,ceq,Op.equalIn,xu hu]
     exact bS.2 (by simp)
    |[],_,hx,_=>cases hx
    |_::_::_,_,hx,_=>simp [nk]at hx
    |[_],[],_,hy=>cases hy
    |[_],_::_::_,_,hy=>simp [nk]at hy
   ·rename_i hu
    simp only[hu,bn,aQ]at ha
    cases h;subst ha
    match xs,ys,hx,hy with
    |[x],[y],hx,hy=>
     cases x<;>simp [nk,HV]at hx
     cases y<;>simp [nk,HV]at hy
     simp only[Zo,HZ,ceq,gM,aD,aW,List.headD_cons]
     rw[run_equalIn_string w m t _ _ hu,acg]
    |[],_,hx,_=>cases hx
    |_::_::_,_,hx,_=>simp [nk]at hx
    |[_],[],_,hy=>cases hy
    |[_],_::_::_,_,hy=>simp [nk]at hy
   ·rename_i hu
    simp only[hu,bn,aQ]at ha
    cases h;subst ha
    match xs,ys,hx,hy with
    |[x],[y],hx,hy=>
     cases x<;>simp [nk,HV]at hx
     cases y<;>simp [nk,HV]at hy
     simp [Zo,HZ,ceq,Op.equalIn,xu hu]
     rename_i b1 b2
     cases b1<;>cases b2<;>rfl
    |[],_,hx,_=>cases hx
    |_::_::_,_,hx,_=>simp [nk]at hx
    |[_],[],_,hy=>cases hy
    |[_],_::_::_,_,hy=>simp [nk]at hy
   ·rename_i fs hu
    simp only[hu,bn,aQ]at ha
    subst ha
    split at h<;>try (cases h;done)
    rename_i hst
    have hfo:P.fieldsOf t=fs:=by unfold Program.fieldsOf;rw[hu]
    simp only[Zo,bv]
    rw[run_equalIn_struct w m t _ _ (by rw[hfo];exact hu) (by simpa using hst),hfo]
    have:=ih.2 0 fs.toList l m xs ys w h (by omega) (by simpa using hx) (by simpa using hy)
    simpa using this
   ·rename_i n e hu
    simp only[hu,bn,aQ]at ha
    subst ha
    split at h<;>try (cases h;done)
    rename_i l1 a1 sz h1 h2 h3
    split at h<;>try (cases h;done)
    rename_i hq
    cases h
    obtain⟨i,hi,lS⟩: ∃i,P.info? e=some i/\i.size=sz:=by
     unfold sH at h3
     cases hi:P.info? e with
     |none=>rw[hi]at h3;cases h3
     |some i=>rw[hi]at h3;exact⟨i,rfl,bR h3⟩
    have hce:P.cellsOf e=sz:=by unfold Program.cellsOf;rw[hi];exact lS
    simp only[Zo,bv]
    rw[run_equalIn_array (w:=w) m xs.toArray ys.toArray hu hi,hce,gU]
    have:=Qe h2 h3 hq.1 hq.2 (λxs ys w hx hy=>ih.1 e l1 a1 m xs ys w h1 h2 (by omega) hx hy) xs ys w n 0 (by simpa using hx) (by simpa using hy)
    simpa using this
  ·cases fs with
   |nil=>
    simp only[FB,aQ]at h
    subst h
    have e1:X.drop off=[]:=bX (by rw[qd _ _ hx];rfl)
    have e2:Y.drop off=[]:=bX (by rw[qd _ _ hy];rfl)
    rw[e1,e2];simp [Op.eqFields,HZ]
   |cons f fs=>
    unfold FB at h
    split at h<;>try (cases h;done)
    rename_i l1 a n h1 h2 h3
    by_cases hc : f.offset = off /\ f.name ≠ "_" /\ (if a = true then n = l1.length else l1.length = 1)
    case neg=>rw[af hc]at h;cases h
    rw[ah hc]at h
    obtain⟨rfl,hn,hs⟩:=hc
    cases hr:FB P d (f.offset+l1.length) fs with
    |none=>simp [hr]at h
    |some l2=>
     simp only[hr,bn,aQ]at h
     subst h
     obtain⟨x1,x2⟩:=Dc l1 l2 _ hx
     obtain⟨y1,y2⟩:=Dc l1 l2 _ hy
     rw[dS]at x2 y2
     have lx:a=false->f.offset+l1.length<=X.length:=by
      intro ha0;subst ha0
      have h0:=qd _ _ x1
      simp only[aD,aW]at hs
      rw[aR,bY]at h0;omega
     have ly:a=false->f.offset+l1.length<=Y.length:=by
      intro ha0;subst ha0
      have h0:=qd _ _ y1
      simp only[aD,aW]at hs
      rw[aR,bY]at h0;omega
     simp only[Op.eqFields,ah hn,Sem.run_bind,Ba h2 h3 l1.length hs lx,Ba h2 h3 l1.length hs ly,Result.andThen_ok]
     rw[ih.1 f.type l1 a m _ _ w h1 h2 (by omega) x1 y1]
     simp only[Result.andThen_ok,Sem.run_ite]
     have e:=Nn ((X.drop f.offset).take l1.length) ((Y.drop f.offset).take l1.length) ((X.drop f.offset).drop l1.length) ((Y.drop f.offset).drop l1.length) (by rw[qd _ _ x1,qd _ _ y1])
     rw[bV,bV,dS,dS]at e
     rw[e,ih.2 _ fs l2 m X Y w hr (by omega) x2 y2]
     cases HZ ((X.drop f.offset).take l1.length) ((Y.drop f.offset).take l1.length)<;>simp
section
variable {e:TypeId} {a b:Option Addr} {n c n' c' m:Nat} {w:World}
theorem afS(hu:P.underlying t=some (.pointer e))(h:a=none\/b=none):(Op.equalIn (m+1) t (.pointer a) (.pointer b)).run P w= .ok (a.isNone && b.isNone) w:=by
 cases a<;>cases b<;>simp at h<;>simp [Op.equalIn,xu hu]
theorem ai4(hu:P.underlying t=some (.slice e))(h:a=none\/b=none):(Op.equalIn (m+1) t (.slice a n c) (.slice b n' c')).run P w= .ok (a.isNone && b.isNone) w:=by
 cases a<;>cases b<;>simp at h<;>simp [Op.equalIn,xu hu]
theorem afT{d:TypeId}{a b:Option Nat}(hu:P.underlying t=some (.map e d))(h:a=none\/b=none):(Op.equalIn (m+1) t (.map a) (.map b)).run P w= .ok (a.isNone && b.isNone) w:=by
 cases a<;>cases b<;>simp at h<;>simp [Op.equalIn,xu hu]
theorem Zp{x1:Array TypeId}{x2:Array TypeId}{x3:Bool}(hu:P.underlying t=some (.func x1 x2 x3)):(Op.equalIn (m+1) t .nilFunc .nilFunc).run P w= .ok true w:=by
 simp [Op.equalIn,xu hu]
theorem Zq{x1:Array TypeId}{x2:Array TypeId}{x3:Bool}{f:Fn}{u v:Array Value}(hu:P.underlying t=some (.func x1 x2 x3)):(Op.equalIn (m+1) t .nilFunc (.func f u v)).run P w= .ok false w:=by
 simp [Op.equalIn,xu hu]
theorem Zr{x1:Array TypeId}{x2:Array TypeId}{x3:Bool}{f:Fn}{u v:Array Value}(hu:P.underlying t=some (.func x1 x2 x3)):(Op.equalIn (m+1) t (.func f u v) .nilFunc).run P w= .ok false w:=by
 simp [Op.equalIn,xu hu]
theorem afU{x1:Array (String×TypeId)}(hu:P.underlying t=some (.interface x1)):(Op.equalIn (m+1) t .nilIface .nilIface).run P w= .ok true w:=by
 simp [Op.equalIn,xu hu]
theorem afV{x1:Array (String×TypeId)}{f:TypeId}{u:Value}(hu:P.underlying t=some (.interface x1)):(Op.equalIn (m+1) t .nilIface (.iface f u)).run P w= .ok false w:=by
 simp [Op.equalIn,xu hu]
theorem afW{x1:Array (String×TypeId)}{f:TypeId}{u:Value}(hu:P.underlying t=some (.interface x1)):(Op.equalIn (m+1) t (.iface f u) .nilIface).run P w= .ok false w:=by
 simp [Op.equalIn,xu hu]
end
theorem XK{neg:Bool}{op:BinOp}{yt:TypeId}(hop:op=if neg then .neq else .eql)(ho:o.op= .binOp op t x y yt)(h:Ie.trEq P t x y neg=some k):pO P o k:=by
 unfold Ie.trEq at h
 have eqn: ∀n:Kn,(n= .iface->(isC x || isC y)=true)->knT P t=some n->pO P o (.q2 (.eqn n neg) x y):=by
  intro n hc hk ρ w hs
  rw[kr ho]
  have hk:=afQ hk
  simp only[s2]at hs
  have hrun: ∀b,(eqGuard op t x y (ρ x) (ρ y)).run P w= .ok () w->(Op.equalIn (9999+1) t (ρ x) (ρ y)).run P w= .ok b w->
    (binOp .eql t (ρ x) (ρ y)).run P w=((Op.equal t (ρ x) (ρ y)).run P w).andThen (λr w'=> .ok (.bool r) w')->(binOp .neq t (ρ x) (ρ y)).run P w=((Op.equal t (ρ x) (ρ y)).run P w).andThen (λr w'=> .ok (.bool (!r)) w')->
    b=(decide (uT n (ρ x)=some true) && decide (uT n (ρ y)=some true))->
    (execOp ρ {dst:=o.dst,op:= .binOp op t x y yt,type:=o.type,pos:=o.pos,after:=o.after,guard:=o.guard}).run P w= .ok (.value (v2 (.eqn n neg) (ρ x) (ρ y) w.heap)) w:=by
   intro b h1 h2 h3 h4 h5
   have h6:(Op.equal t (ρ x) (ρ y)).run P w= .ok b w:=h2
   rw[h6]at h3 h4
   subst h5
   cases neg<;>subst hop<;>simp only[aD,aW,bv]at h1
   ·simp only[execOp,Sem.run_bind,h1,h3,Result.andThen_ok,aW,aD,Sem.run_pure,v2]
   ·simp only[execOp,Sem.run_bind,h1,h4,Result.andThen_ok,bv,Sem.run_pure,v2]
  cases n with
  |ptr=>
   obtain⟨e,hu⟩:=hk
   cases hx:ρ x<;>simp [uT,hx]at hs
   cases hy:ρ y<;>simp [hy]at hs
   rename_i a b
   rw[<-hx,<-hy]
   refine hrun (a.isNone && b.isNone) ?_ ?_ ?_ ?_ ?_<;>rw[hx,hy]
   ·cases op<;>simp [eqGuard]
   ·exact afS hu hs
   ·simp [binOp]
   ·simp [binOp]
   ·cases a<;>cases b<;>simp [uT]
  |sl=>
   obtain⟨e,hu⟩:=hk
   cases hx:ρ x<;>simp [uT,hx]at hs
   cases hy:ρ y<;>simp [hy]at hs
   rename_i a _ _ b _ _
   rw[<-hx,<-hy]
   refine hrun (a.isNone && b.isNone) ?_ ?_ ?_ ?_ ?_<;>rw[hx,hy]
   ·cases op<;>simp [eqGuard]
   ·exact ai4 hu hs
   ·simp [binOp]
   ·simp [binOp]
   ·cases a<;>cases b<;>simp [uT]
  |map=>
   obtain⟨e,f,hu⟩:=hk
   cases hx:ρ x<;>simp [uT,hx]at hs
   cases hy:ρ y<;>simp [hy]at hs
   rename_i a b
   rw[<-hx,<-hy]
   refine hrun (a.isNone && b.isNone) ?_ ?_ ?_ ?_ ?_<;>rw[hx,hy]
   ·cases op<;>simp [eqGuard]
   ·exact afT hu hs
   ·simp [binOp]
   ·simp [binOp]
   ·cases a<;>cases b<;>simp [uT]
  |func=>
   obtain⟨e,f,g,hu⟩:=hk
   cases hx:ρ x<;>simp [uT,hx]at hs<;>cases hy:ρ y<;>simp [hy]at hs<;>rw[hx,hy]at hrun<;>refine hrun _ ?_ ?_ ?_ ?_ rfl
   all_goals first
    |(cases op<;>simp [eqGuard];done)
    |(exact Zp hu)
    |(exact Zq hu)
    |(exact Zr hu)
    |(simp [binOp];done)
  |iface=>
   obtain⟨m,hu⟩:=hk
   have hc:=hc rfl
   cases hx:ρ x<;>simp [uT,hx]at hs<;>cases hy:ρ y<;>simp [hy]at hs<;>rw[hx,hy]at hrun<;>refine hrun _ ?_ ?_ ?_ ?_ rfl
   all_goals first
    |(cases x<;>cases y<;>simp [isC]at hc<;>cases op<;>simp [eqGuard];done)
    |(exact afU hu)
    |(exact afV hu)
    |(exact afW hu)
    |(simp [binOp];done)
 split at h
 ·rename_i hk
  split at h<;>try (cases h;done)
  rename_i hc
  cases h;exact eqn .iface (λ_=>hc) hk
 ·rename_i n hni hk
  cases h;exact eqn n (λe=>absurd e hni) hk
 ·split at h<;>try (cases h;done)
  rename_i fs ks hu hks
  split at h<;>try (cases h;done)
  rename_i hg
  cases h
  intro ρ w hs;rw[kr ho]
  simp only[s2]at hs
  split at hs<;>try (exact hs.elim)
  rename_i xs ys hx hy
  have ha:Cj P t=some true:=by unfold Cj;rw[hu];rfl
  have he:=(afR (P:=P) 20).1 t ks true 10000 xs.toList ys.toList w hks ha (by decide) hs.1 hs.2
  simp only[Zo,bv,jh]at he
  have hgu:=λop'=>run_eqGuard_agg (P:=P) w op' t x y xs ys (by simpa using hg)
  cases neg<;>subst hop<;>simp [execOp,hx,hy,v2,hgu,run_eql_struct,run_neq_struct,he]
theorem Zt{op:BinOp}{yt:TypeId}(ho:o.op= .binOp op t x y yt)(h:Ie P op t x y=some k):pO P o k:=by
 unfold Ie at h
 split at h<;>try (cases h;done)
 ·split at h<;>try (cases h;done)
  rename_i hk hb
  cases h;intro ρ w hs;rw[kr ho]
  simp only[s2]at hs
  obtain⟨h1,h2,h3⟩:=hs
  cases hx:ρ x<;>simp [hx,kS]at h1
  cases hy:ρ y<;>simp [hy,kS]at h2
  simp only[hx,hy,ti,tk]at h3
  have key:rF op=false-> ∀(k:IntKind) (a b:Int),(Op.intBits op k a b).run P w= .ok (.int k (xM op k a b)) w:=by
   intro hs k a b
   cases op<;>simp [Us]at hb<;>first|cases hs;done|rfl
  cases hsh:rF op with
  |true=>
   rw[hsh]at h3
   simp only[bv]at h3
   have h4:=Int.not_lt.2 h3
   cases op<;>simp [rF]at hsh<;>simp [execOp,eqGuard,binOp,hx,hy,v2,ti,tk,xM,Op.shift,h4]
  |false=>
   rw[hsh]at h3
   simp only[aD,aW]at h3
   subst h3
   have:=key hsh
   cases op<;>simp [Us]at hb<;>simp [rF]at hsh<;>simp [execOp,eqGuard,binOp,hx,hy,v2,ti,tk,this]
 ·split at h<;>try (cases h;done)
  ·exact XK (neg:=false) rfl ho h
  ·exact XK (neg:=true) rfl ho h
theorem Nq {f:FuncId} {vs:List Value} {a:Act} {w:World} {next:Act->World->Prop} {Q:Exit->Act->World->Prop} {K:Value->H->Prop} {KP:List PanicEntry->H->Prop}
  (hr:(execOp a.eval o).run P w=(callFunc f vs.toArray).run P w) (hc:kN P f vs w.heap K KP)
  (hn: ∀v w',pM w w'->K v w'.heap->next (a.put o.dst v) w') (hp: ∀c w',pM w w'->KP c w'.heap->Q (.panic c) a w'):o.wp P a w next Q:=by
 rcases hc with⟨hb,hc⟩|⟨_,hc⟩
 ·unfold Kz at hb
  split at hb
  ·rename_i fn hfn
   simp only[aM,bne_iff_ne,ne_eq]at hb
   have hr:(execOp a.eval o).run P w= .ok (.enter f vs.toArray) w:=by
    rw[hr]
    obtain⟨bd,hbd⟩:=dC.1 hb.1
    simp [callFunc,hfn,hb.2,hbd]
   unfold Oper.wp;rw[hr]
   refine(hc w rfl).mono λe w' ⟨hk,hR⟩=> ?_
   cases e with
   |returned v=>exact hn _ _ hk hR
   |panicked c=>exact hp _ _ hk hR
   |outgrown=>exact hR.elim
  ·cases hb
 ·obtain⟨v,w',hr2,hk,hK⟩:=hc w rfl
  exact kX (w':=w') (v:=v) (hr.trans hr2) (hn _ _ hk hK)
theorem aco(a:Act)(args:Array Operand):(args.toList.map a.eval).toArray=args.map a.eval:=by apply bQ.1;simp only[fD]
theorem Zu{name:String}{g:FuncId}(h:Ib (ai3 P name) t=some g):Qb P t name=some g:=by
 unfold ai3 at h
 generalize List.range P.types.size=l at h
 induction l with
 |nil=>cases h
 |cons a l ih=>
  simp only[List.filterMap_cons]at h
  cases hm:Qb P a name with
  |none=>rw[hm]at h;exact ih h
  |some g'=>
   rw[hm]at h
   simp only[bn,Ib]at h
   split at h
   ·rename_i e;subst e;rw[hm];exact h
   ·exact ih h
theorem UE{name:String}{g:FuncId}{v:Value}{w:World}(h:Qb P t name=some g):(method (P.types.size+Made.depth) t v name).run P w= .ok (g,v) w:=by
 unfold Qb at h
 cases hi:P.info? t with
 |none=>simp [hi]at h
 |some i=>
  simp only[hi]at h
  cases hm:i.methods.find? (·.name == name)with
  |none=>simp [hm]at h
  |some m=>
   simp only[hm]at h
   split at h<;>try (cases h;done)
   rename_i hp
   split at h<;>try (cases h;done)
   rename_i f p hf
   have hpe:m.path= #[]:=by simpa using hp
   show(method (P.types.size+99+1) t v name).run P w=_
   unfold method
   simp only[Sem.run_bind,typeInfo,run_program,Result.andThen_ok,hi,Sem.run_pure,hm,hpe,follow,hf,receiverAt,underlying]
   cases hu:P.underlying t with
   |none=>simp [hu]at h
   |some d=>
    cases d<;>cases p<;>simp [hu]at h<;>subst h<;>simp [Place.get]
theorem afX{h:H}{b o k j:Nat}{v:Value}(hk:o+k<=lS h b)(hj:(qV h b o k)[j]? =some v):hc h b (o+j)=some v:=by
 unfold qV at hj
 rw[bL,aO]at hj
 obtain⟨i,hi,rfl⟩:=hj
 have h1:=aB.1 hi
 obtain⟨h2,h3⟩:=h1
 rw[List.getElem_range]at h3
 subst h3
 rw[List.length_range]at h2
 exact wT (by omega)
theorem Bc{h:H}{k:Nat}{l:List Value}(hr:Ia h none k l):l=[]:=by
 rcases hr with⟨_,h⟩|h<;>exact h
theorem xO{w:World}{a:Addr}{k:Nat}{l:List Value}(hr:Ia w.heap (some a) k l):l.length=k/\ ∀j v,l[j]? =some v->w.cell? (a.add j)=some v:=by
 rcases hr with⟨rfl,rfl⟩|hr
 ·exact⟨rfl,λj v hj=>by simp at hj⟩
 obtain⟨b,o,s⟩:=a
 cases s with
 |some s=>exact hr.elim
 |none=> ?_
 obtain⟨h1,rfl⟩:=hr
 refine⟨by simp [qV],λj v hj=> ?_⟩
 rw[Addr.add_lit,pY]
 exact afX h1 hj
theorem uU(z:Value)(n:Nat):Builtin.zeroCells z.cells n=(rf z.cells.toList n).toArray:=by
 unfold Builtin.zeroCells
 exact Im z.cells.toList n _ (by simp)
theorem Qf(v:Value)(n:Nat):rf [v] n=List.replicate n v:=by
 unfold rf
 refine List.ext_getElem (by simp) λi h1 h2=> ?_
 simp [Nat.mod_one]
theorem De{w:World}(h:H):pM w {w.drew with heap:=h}:=⟨rfl,rfl,rfl⟩
theorem acp{x y:Operand}{u:TypeId}{ats:Array TypeId}{args:Array Operand}(ea:args= #[x,y])(et:ats= #[t,u])(ho:o.op= .call {callee:= .builtin .append,args,argTypes:=ats})(h:ab6 P t u x y=some k):pO P o k:=by
 subst ea et
 unfold ab6 at h
 split at h<;>try (cases h;done)
 case h_2 e hu hst=>
  split at h<;>try (cases h;done)
  rename_i i hi
  split at h<;>try (cases h;done)
  rename_i hz
  split at h<;>try (cases h;done)
  rename_i hc
  obtain⟨hc1,hc2⟩:=hc
  cases h
  intro G hG ac w next Q K KP hf hn hp
  simp only[aS,bK,qp]at hf
  split at hf<;>try (exact hf.elim)
  rename_i a n c hx
  obtain⟨hy,hn0,hnc,hbt,olds,hro,hin,hgr⟩:=hf
  obtain⟨s,hs⟩: ∃s:ByteArray,ac.eval y= .string s:=by
   cases hv:ac.eval y<;>simp [hv,qJ]at hy
   exact⟨_,rfl⟩
  have hbl:(bl (ac.eval y)).map sG=Lib.strCells s:=by rw[hs];rfl
  have hln:(bl (ac.eval y)).length=s.size:=by
   rw[hs];show s.data.toList.length=s.size
   rw[dm];rfl
  rw[hbl,hln]at hin hgr
  rw[hln]at hbt
  have hex: ∀v w',(Builtin.append_ #[t,u] o.type #[.slice a n c,.string s]).run P w= .ok v w'->(execOp ac.eval o).run P w= .ok (.value v) w':=by
   intro v w' h
   rw[kr ho]
   simp [execOp,resolve,invoke,builtin,hx,hs,h]
  have hfc:=Lib.run_firstCells_string (P:=P) w 1 s
  by_cases hle:n+s.size<=c
  ·have hin:=hin hle
   cases a with
   |none=>
    obtain⟨rfl,rfl⟩:=hn0 rfl
    have h0:s.size=0:=by omega
    rw[h0]at hfc
    refine kX (w':=w) (hex (.slice none 0 0) w ?_) (hn _ _ (.refl w) hin)
    simp [Builtin.append_,run_underlying hu,run_underlying hst,sizeOf,typeInfo,hi,hc1,Builtin.lenOf,hfc,h0]
   |some a=>
    obtain⟨bb,ao,as⟩:=a
    cases as with
    |some s=>exact hin.elim
    |none=>
     obtain⟨⟨w1,w2,w3⟩,hK⟩:=hin
     have hst2:=vZ P bb (Lib.strCells s) (ao+n) 0 w (by omega) (by omega) w3
     refine kX (w':={w with heap:=jW w.heap bb (ao+n) (Lib.strCells s)}) (hex (.slice (some ⟨bb,ao,none⟩) (n+s.size) c) _ ?_) (hn _ _ ⟨rfl,rfl,rfl⟩ hK)
     simp only[dO]at hst2
     simp [Builtin.append_,run_underlying hu,run_underlying hst,sizeOf,typeInfo,hi,hc1,Builtin.lenOf,hle,hfc,Addr.add_lit,hst2]
  ·have hlt:c<n+s.size:=by omega
   have hgr2:=hgr hlt
   have hml:n+s.size<=maxLen:=aT hbt (by decide)
   cases a with
   |none=>
    obtain⟨rfl,rfl⟩:=hn0 rfl
    have ho2:olds=[]:=Bc hro
    subst ho2
    have hr:=run_append_nil_string (P:=P) w t u o.type e i (.int .u8 0) hu hst hi hz s (by omega) (by omega) (by rw[hc2];omega)
    have hK:=hgr2 (grownCap w s.size 0 e) (by rw[bJ];exact grownCap_ge w s.size 0 e) (grownCap_le_maxLen w s.size 0 e (by omega))
    refine kX (hex _ _ hr) (hn _ _ (De _) ?_)
    simp only[bJ,aJ]at hK ⊢
    have:s.data.map (λb=>Value.int .u8 b.toNat)++Builtin.zeroCells (Value.int .u8 0).cells (grownCap w s.size 0 e - s.size)=(Lib.strCells s++List.replicate (grownCap w s.size 0 e - s.size) (Value.int .u8 0)).toArray:=by
     rw[uU]
     apply Array.ext'
     simp [Lib.strCells,Value.cells,Qf]
    rw[this];exact hK
   |some a=>
    obtain⟨o1,o2⟩:=xO hro
    have hr:=Lib.run_append_grow_string (P:=P) w t u o.type e i (.int .u8 0) hu hst hi hz a n c olds (by rw[hc1,o1];omega) o2 s hlt (by omega) (by rw[hc2];exact growslice_fits hlt (by omega))
    have hK:=hgr2 (grownCap w (n+s.size) c e) (grownCap_ge w (n+s.size) c e) (grownCap_le_maxLen w (n+s.size) c e hml)
    refine kX (hex _ _ hr) (hn _ _ (De _) ?_)
    have:olds.toArray++(Lib.strCells s).toArray++Builtin.zeroCells (Value.int .u8 0).cells (grownCap w (n+s.size) c e - (n+s.size))=(olds++Lib.strCells s++List.replicate (grownCap w (n+s.size) c e - (n+s.size)) (Value.int .u8 0)).toArray:=by
     rw[uU]
     apply Array.ext'
     simp [Value.cells,Qf]
    rw[this];exact hK
 rename_i e _ hu _
 split at h<;>try (cases h;done)
 rename_i i hi
 split at h<;>try (cases h;done)
 rename_i z hz
 split at h<;>try (cases h;done)
 rename_i hc
 obtain⟨hc1,hc2,rfl⟩:=hc
 cases h
 intro G hG ac w next Q K KP hf hn hp
 simp only[aS,bK,qp]at hf
 split at hf<;>try (exact hf.elim)
 rename_i a n c b m d hx hy
 obtain⟨hn0,hm0,hnc,hbt,olds,news,hro,hrn,hin,hgr⟩:=hf
 have hmb:n+m<=140737488355328:=aT (Nat.le_mul_of_pos_right _ hc2) hbt
 have hex: ∀v w',(Builtin.append_ #[t,t] o.type #[.slice a n c,.slice b m d]).run P w= .ok v w'->(execOp ac.eval o).run P w= .ok (.value v) w':=by
  intro v w' h
  rw[kr ho]
  simp [execOp,resolve,invoke,builtin,hx,hy,h]
 by_cases hle:n+m<=c
 ·have hin:=hin hle
  have hl:(Builtin.firstCells i.size m (.slice b m d)).run P w= .ok news.toArray w:=by
   cases b with
   |none=>rw[Bc hrn];simp [Builtin.firstCells]
   |some b=>exact run_firstCells_some w i.size m _ m d news (xO hrn).1 (xO hrn).2
  cases a with
  |none=>
   refine kX (w':=w) (hex (.slice none (n+m) c) w ?_) (hn _ _ (.refl w) hin)
   simp [Builtin.append_,run_underlying hu,sizeOf,typeInfo,hi,Builtin.lenOf,hle,hl]
  |some a=>
   obtain⟨bb,ao,as⟩:=a
   cases as with
   |some s=>exact hin.elim
   |none=>
    obtain⟨⟨w1,w2,w3⟩,hK⟩:=hin
    have hst:=vZ P bb news (ao+n*i.size) 0 w (by omega) (by omega) w3
    refine kX (w':={w with heap:=jW w.heap bb (ao+n*i.size) news}) (hex (.slice (some ⟨bb,ao,none⟩) (n+m) c) _ ?_) (hn _ _ ⟨rfl,rfl,rfl⟩ hK)
    simp only[dO]at hst
    simp [Builtin.append_,run_underlying hu,sizeOf,typeInfo,hi,Builtin.lenOf,hle,hl,Addr.add_lit,hst]
 ·have hlt:c<n+m:=by omega
  have hgr2:=hgr hlt
  have hb: ∃b',b=some b':=by
   cases b with
   |none=>have:=hm0 rfl;omega
   |some b=>exact⟨b,rfl⟩
  obtain⟨b',rfl⟩:=hb
  obtain⟨n1,n2⟩:=xO hrn
  have hml:n+m<=maxLen:=aT hmb (by decide)
  cases a with
  |none=>
   obtain⟨rfl,rfl⟩:=hn0 rfl
   have ho2:olds=[]:=Bc hro
   subst ho2
   rw[bJ]at hbt
   have hr:=run_append_nil (P:=P) w t o.type e i z hu hi hz b' m d news n1 n2 (by omega) (by omega) (by omega)
   have hK:=hgr2 (grownCap w m 0 e) (by rw[bJ];exact grownCap_ge w m 0 e) (grownCap_le_maxLen w m 0 e (by omega))
   refine kX (hex _ _ hr) (hn _ _ (De _) ?_)
   simp only[bJ,aJ]at hK ⊢
   have:news.toArray++Builtin.zeroCells z.cells (grownCap w m 0 e - m)=(news++rf z.cells.toList (grownCap w m 0 e - m)).toArray:=by rw[uU];simp
   rw[this];exact hK
  |some a=>
    obtain⟨o1,o2⟩:=xO hro
    have hr:=run_append_grow (P:=P) w t o.type e i z hu hi hz a n c olds o1 o2 b' m d news n1 n2 hlt (by omega) (growslice_fits hlt hbt)
    have hK:=hgr2 (grownCap w (n+m) c e) (grownCap_ge w (n+m) c e) (grownCap_le_maxLen w (n+m) c e hml)
    refine kX (hex _ _ hr) (hn _ _ (De _) ?_)
    have:olds.toArray++news.toArray++Builtin.zeroCells z.cells (grownCap w (n+m) c e - (n+m))=(olds++news++rf z.cells.toList (grownCap w (n+m) c e - (n+m))).toArray:=by rw[uU];simp
    rw[this];exact hK
theorem acr{x y:Operand}{u:TypeId}{ats:Array TypeId}{args:Array Operand}(ea:args= #[x,y])(et:ats= #[t,u])(ho:o.op= .call {callee:= .builtin .copy,args,argTypes:=ats})(h:acb P t x y=some k):pO P o k:=by
 subst ea et
 unfold acb at h
 split at h<;>try (cases h;done)
 rename_i e hu
 obtain⟨sz,lS,rfl⟩:=aO.1 h
 unfold sH at lS
 obtain⟨i,hi,rfl⟩:=aO.1 lS
 intro G hG ac w next Q K KP hf hn hp
 simp only[aS,bK,qp]at hf
 split at hf<;>try (exact hf.elim)
 rename_i b ao dn dc sa sn sc hx hy
 obtain⟨news,hro,⟨w1,w2,w3⟩,hK⟩:=hf
 have hst:=vZ P b news ao 0 w (by omega) (by omega) w3
 simp only[dO]at hst
 have hmin:Nat.min sn dn=min sn dn:=rfl
 have hfc:(Builtin.firstCells i.size (min sn dn) (.slice sa sn sc)).run P w= .ok news.toArray w:=by
  cases sa with
  |none=>
   have:=Bc hro
   subst this
   simp [Builtin.firstCells]
  |some a=>
   obtain⟨r1,r2⟩:=xO hro
   have:=run_loadCells_list (P:=P) w a news r2
   rw[r1]at this
   simp only[Builtin.firstCells,this]
 refine kX (w':={w with heap:=jW w.heap b ao news}) ?_ (hn _ _ ⟨rfl,rfl,rfl⟩ hK)
 rw[kr ho]
 simp [execOp,resolve,invoke,builtin,hx,hy,Builtin.copy_,run_underlying hu,Builtin.lenOf,hmin,sizeOf,typeInfo,hi,hfc,hst,goInt]
theorem Zv{c:Call}(ho:o.op= .call c)(h:Ux P c=some k):pO P o k:=by
 obtain⟨cal,args,ats⟩:=c
 unfold Ux at h
 simp only at h
 split at h<;>try (cases h;done)
 ·split at h<;>try (cases h;done)
  rename_i x' t' hx ht
  have ea:args= #[x']:=by apply bQ.1;simpa using hx
  have et:ats= #[t']:=by apply bQ.1;simpa using ht
  subst ea et
  split at h<;>try (cases h;done)
  ·rename_i hk
   have hu:=Ic hk
   cases h;intro ρ w hs;rw[kr ho]
   simp only[s1]at hs
   cases hx:ρ x'<;>simp only[hx,aD,qJ]at hs
   ·rename_i s'
    have hz:=Lib.size_eq s'
    simp [execOp,resolve,invoke,builtin,Builtin.len_,xu hu,hx,v1,goInt,bl]
  ·rename_i n hk
   obtain⟨e,hu,hz⟩:=yI hk
   cases h;intro ρ w hs;rw[kr ho]
   simp only[s1]at hs
   cases hx:ρ x'<;>simp only[hx,aD,abZ]at hs
   ·simp [execOp,resolve,invoke,builtin,Builtin.len_,xu hu,hx,v1,goInt]
  ·split at h<;>cases h
   rename_i kt et hu
   intro G hG a w next Q K KP hf hn _
   simp only[aS,bK,qp]at hf
   obtain⟨l,hm,hK⟩:=hf
   have hex:(Builtin.len_ #[t'] o.type #[a.eval x']).run P w= .ok (.int .i64 l.length) w->o.wp P a w next Q:=λhv=>
    kX (w':=w) (by rw[kr ho];simp [execOp,resolve,invoke,builtin,hv]) (hn _ _ (.refl w) hK)
   unfold LB at hm
   split at hm<;>try (exact hm.elim)
   ·rename_i hx
    subst hm
    refine hex ?_
    simp [Builtin.len_,xu hu,hx,goInt]
   ·rename_i b hx
    obtain⟨es,c,hb,rfl⟩:=hm
    refine hex ?_
    simp [Builtin.len_,xu hu,hx,goInt,MapKept.run_getObj_map hb]
 ·split at h<;>try (cases h;done)
  rename_i x' t' hx ht
  have ea:args= #[x']:=by apply bQ.1;simpa using hx
  have et:ats= #[t']:=by apply bQ.1;simpa using ht
  subst ea et
  split at h<;>try (cases h;done)
  rename_i n hk
  obtain⟨e,hu,hz⟩:=yI hk
  cases h;intro ρ w hs;rw[kr ho]
  simp only[s1]at hs
  cases hx:ρ x'<;>simp only[hx,aD,abZ]at hs
  simp [execOp,resolve,invoke,builtin,Builtin.cap_,xu hu,hx,v1,goInt]
 ·split at h<;>try (cases h;done)
  rename_i x' y' t' u' hx ht
  exact acp (by apply bQ.1;simpa using hx) (by apply bQ.1;simpa using ht) ho h
 ·split at h<;>try (cases h;done)
  rename_i x' y' t' u' hx ht
  exact acr (by apply bQ.1;simpa using hx) (by apply bQ.1;simpa using ht) ho h
 ·split at h<;>try (cases h;done)
  rename_i x' y' hx
  have ea:args= #[x',y']:=by apply bQ.1;simpa using hx
  subst ea
  cases h;intro ρ w hs;rw[kr ho]
  obtain⟨h1,h2⟩:=hs
  cases hx:ρ x'<;>simp [hx,kS]at h1
  cases hy:ρ y'<;>simp [hy,kS]at h2
  simp only[execOp,resolve,invoke,builtin,Builtin.min_,Builtin.min2,hx,hy,v2,ti,tk,List.map_toArray,aS,bK,List.foldlM_cons,List.foldlM_nil,Sem.run_bind,Sem.run_pure,Result.andThen_ok]
  congr 3<;>(split<;>rfl)
 ·split at h<;>try (cases h;done)
  rename_i x' y' hx
  have ea:args= #[x',y']:=by apply bQ.1;simpa using hx
  subst ea
  cases h;intro ρ w hs;rw[kr ho]
  obtain⟨h1,h2⟩:=hs
  cases hx:ρ x'<;>simp [hx,kS]at h1
  cases hy:ρ y'<;>simp [hy,kS]at h2
  simp only[execOp,resolve,invoke,builtin,Builtin.max_,Builtin.max2,hx,hy,v2,ti,tk,List.map_toArray,aS,bK,List.foldlM_cons,List.foldlM_nil,Sem.run_bind,Sem.run_pure,Result.andThen_ok]
  congr 3<;>(split<;>rfl)
 ·rename_i f
  cases h
  intro G hG a w next Q K KP hf hn hp
  simp only[qp]at hf
  refine Nq ?_ (hG _ _ _ _ _ hf) hn hp
  rw[kr ho,aco]
  simp [execOp,resolve,Deferred.ofValue,Act.eval,invoke]
 ·rename_i f hnf
  cases h
  intro G hG a w next Q K KP hf hn hp
  simp only[aS,qp]at hf
  split at hf<;>try (exact hf.elim)
  rename_i g first cap hx
  refine Nq ?_ (hG _ _ _ _ _ hf) hn hp
  rw[kr ho]
  have e:first++args.map a.eval++cap=(first.toList++List.map a.eval args.toList++cap.toList).toArray:=by apply bQ.1;simp
  rw[<-e]
  simp [execOp,resolve,Deferred.ofValue,hx,invoke]
 ·rename_i r name
  cases h
  intro G hG a w next Q K KP hf hn hp
  simp only[aS,qp]at hf
  split at hf<;>try (exact hf.elim)
  rename_i t v hx
  split at hf<;>try (exact hf.elim)
  rename_i g hg
  refine Nq ?_ (hG _ _ _ _ _ hf) hn hp
  rw[kr ho]
  have e: #[v]++args.map a.eval=(v::List.map a.eval args.toList).toArray:=by apply bQ.1;simp
  have e2:(#[Value.iface t v]++args.map a.eval)[0]? =some (Value.iface t v):=by rw[Array.getElem?_append_left (by simp)];rfl
  have e3:(#[Value.iface t v]++args.map a.eval).extract 1 (#[Value.iface t v]++args.map a.eval).size=args.map a.eval:=by
   apply bQ.1;simp;exact cB (by simp)
  rw[<-e]
  simp only[execOp,resolve,hx,invoke,e2,e3,Sem.run_bind,Sem.run_pure,Result.andThen_ok]
  simp only[callMethod,Sem.run_bind,run_program,Result.andThen_ok,UE (Zu hg)]
theorem lu{z:Option K}(h:pE z=some k)(hs:z=some k->pO P o k):pO P o k:=by
 cases z with
 |none=>cases h;exact Ey
 |some z=>exact hs h
theorem acs{x:Operand}(ho:o.op= .panic x):pO P o (.ef .pnc [x]):=by
 intro G hG a w next Q K KP hf hn hp
 simp only[aS,bK,qp]at hf
 split at hf
 ·rename_i t v hx
  have:(execOp a.eval o).run P w= .halt (.panic (a.eval x)) w:=by
   rw[kr ho];simp [execOp,Instr.panic,goPanic,hx]
  unfold Oper.wp;rw[this]
  exact hp _ w (.refl w) hf
 ·exact hf.elim
theorem acu{t:TypeId}(ho:o.op= .makeMap t none):pO P o (.ef .mkm []):=by
 intro G hG a w next Q K KP hf hn _
 simp only[qp]at hf
 refine kX (w':=w.alloc (.map #[] 0)) (by rw[kr ho];simp [execOp,Instr.makeMap]) (hn _ _ ⟨rfl,rfl,rfl⟩ hf)
theorem Nr{α β:Type}{f:α->Option β}: ∀{l:List α},(∀a∈l,∃b,f a=some b)-> ∃bs,l.mapM f=some bs
 |[],_=>⟨[],rfl⟩
 |a::l,h=>by
  obtain⟨b,hb⟩:=h a (by simp)
  obtain⟨bs,hbs⟩:=Nr (l:=l) λx hx=>h x (by simp [hx])
  exact⟨b::bs,by simp [fA,hb,hbs]⟩
theorem XL{α β:Type}{f:α->Option β}: ∀{l:List α} {bs:List β},l.mapM f=some bs->bs.length=l.length/\ ∀(i:Nat) (a:α),l[i]? =some a-> ∃b,f a=some b/\bs[i]? =some b
 |[],bs,h=>by
  have:bs=[]:=by simpa using h.symm
  subst this;exact⟨rfl,λi a ha=>by simp at ha⟩
 |a::l,bs,h=>by
  rw[fA]at h
  cases hb:f a with
  |none=>simp [hb]at h
  |some b=>
   cases hl:l.mapM f with
   |none=>simp [hb,hl]at h
   |some r=>
    simp only[hb,hl,Option.bind_eq_bind,fO,Option.pure_def,aQ]at h
    subst h
    obtain⟨h1,h2⟩:=XL hl
    refine⟨by simp [h1],λi x hx=> ?_⟩
    cases i with
    |zero=>simp only[bO,aQ]at hx;subst hx;exact⟨b,hb,rfl⟩
    |succ i=>simp only[eT]at hx ⊢;exact h2 i x hx
theorem Df: ∀{ks:List Kc} {xs:List Value},qm ks xs=true->xs.length=ks.length
 |[],[],_=>rfl
 |_::ks,_::xs,h=>by simp only[qm,aM]at h;simp [Df h.2]
 |[],_::_,h=>by simp [qm]at h
 |_::_,[],h=>by simp [qm]at h
theorem UF: ∀{ks:List Kc} {xs:List Value},qm ks xs=true-> ∀(i:Nat) (k:Kc),ks[i]? =some k-> ∃x,xs[i]? =some x/\HY k x=true
 |[],_,_,i,k,hk=>by simp at hk
 |_::_,[],h,_,_,_=>by simp [qm]at h
 |a::ks,x::xs,h,i,k,hk=>by
  simp only[qm,aM]at h
  cases i with
  |zero=>simp only[bO,aQ]at hk;subst hk;exact⟨x,rfl,h.1⟩
  |succ i=>simp only[eT]at hk ⊢;exact UF h.2 i k hk
theorem acv{e:TypeId}{kc:Kc}(h:kcT P e=some kc){v:Value}(hv:HY kc v=true)(D:Nat): ∃ls,P.keyLits (D+1) e [v]=some ls:=by
 unfold kcT at h
 split at h<;>cases h<;>rename_i hu
 ·cases v<;>simp [HY]at hv
  obtain⟨rfl,h2⟩:=hv
  exact⟨_,by simp [Program.keyLits,hu,h2];rfl⟩
 ·cases v<;>simp [HY]at hv
  exact⟨_,by simp [Program.keyLits,hu,hv];rfl⟩
 ·cases v<;>simp [HY]at hv
  exact⟨_,by simp [Program.keyLits,hu];rfl⟩
theorem Ip{xs:List Value}{i:Nat}{x:Value}(h:xs[i]? =some x):(xs.drop i).take 1=[x]:=by
 obtain⟨hi,rfl⟩:=aB.1 h
 rw[aN hi];rfl
theorem Zw{kt:TypeId}{ks:List Kc}(h:PY P kt=some ks){v:Value}(hv:Ch ks v=true): ∃l,keyOf P kt v=some l:=by
 unfold PY at h
 split at h<;>try (cases h;done)
 rename_i hc
 obtain⟨h1,h2,-,-,h5⟩:=hc
 cases v<;>simp only[Ch,aD]at hv
 rename_i xs
 obtain⟨D,hD⟩: ∃D,P.types.size=D+1:=⟨P.types.size - 1,by omega⟩
 have hlen:=Df hv
 split at h<;>try (cases h;done)
 ·rename_i fs hu
  split at h<;>try (cases h;done)
  rename_i hq
  obtain⟨q1,q2,q3,q4⟩:=hq
  obtain⟨m1,m2⟩:=XL h
  have lS:xs.toList.length=P.cellsOf kt:=by rw[q2,hlen,m1]
  have hex: ∃ls,fs.toList.mapM (λf=>P.keyLits (D+1) f.type ((xs.toList.drop f.offset).take (P.cellsOf f.type)))=some ls:=by
   refine Nr λf hf=> ?_
   obtain⟨i,hi⟩:=List.getElem?_of_mem hf
   obtain⟨kc,e1,e2⟩:=m2 i f hi
   obtain⟨x,e3,e4⟩:=UF hv i kc e2
   have e5:P.cellsOf f.type=1:=by
    have:=bI.1 q3 f hf
    simpa using this
   have e6:f.offset=i:=by
    have:=bA (λl:List Nat=>l[i]?) q1
    simp only[bL,hi,bn]at this
    have hlt:=(aB.1 hi).1
    rw[di hlt]at this
    exact bR this
   rw[e5,e6,Ip e3]
   exact acv e1 e4 D
  obtain⟨ls,hls⟩:=hex
  refine⟨.string (keyBytes ls.flatten),?_⟩
  unfold keyOf
  simp only[hu]
  have hf:(Value.agg xs).formed P kt=true:=by simp only[Value.formed,hu];simpa using lS
  rw[h2,hf,hD]
  unfold Program.keyLits
  simp only[hu,Value.cells,lS,q4,hls,jl,bv,and_self,bn]
 ·rename_i n e hu
  split at h<;>try (cases h;done)
  rename_i hq
  obtain⟨q1,q2⟩:=hq
  obtain⟨kc,e1,rfl⟩:=aO.1 h
  have lS:xs.toList.length=P.cellsOf kt:=by rw[q1,hlen,fM]
  have hex: ∃ls,(List.range n).mapM (λi=>P.keyLits (D+1) e ((xs.toList.drop (i*P.cellsOf e)).take (P.cellsOf e)))=some ls:=by
   refine Nr λi hi=> ?_
   have hi':i<n:=gD.1 hi
   obtain⟨x,e3,e4⟩:=UF hv i kc (by rw[gI,ah hi'])
   rw[q2,dz,Ip e3]
   exact acv e1 e4 D
  obtain⟨ls,hls⟩:=hex
  refine⟨.string (keyBytes ls.flatten),?_⟩
  unfold keyOf
  simp only[hu]
  have hf:(Value.agg xs).formed P kt=true:=by simp only[Value.formed,hu];simpa using lS
  rw[h2,hf,hD]
  unfold Program.keyLits
  simp only[hu,Value.cells,lS,hls,jl,bv,bn]
theorem Ns: ∀(l m:List Kc) (xs:List Value),qm (l++m) xs=true->qm l (xs.take l.length)=true/\qm m (xs.drop l.length)=true
 |[],m,xs,h=>⟨rfl,h⟩
 |_::_,_,[],h=>by cases h
 |k::l,m,x::xs,h=>by
  simp only[aP,qm,aM]at h
  have:=Ns l m xs h.2
  simp only[au,dY,fU,qm,aM]
  exact⟨⟨h.1,this.1⟩,this.2⟩
theorem Zx(d:Nat):(∀t l D xs,Ig P d t=some l->d<=D->qm l xs=true-> ∃ls,P.keyLits D t xs=some ls)/\
  (∀o fs l D (X:List Value),PZ P d o fs=some l->d<=D->qm l (X.drop o)=true-> ∃ls,fs.mapM (λf=>P.keyLits D f.type ((X.drop f.offset).take (P.cellsOf f.type)))=some ls):=by
 induction d with
 |zero=>
  refine⟨λt l D xs h=>by simp [Ig]at h,λo fs l D X h hD hx=> ?_⟩
  cases fs with
  |nil=>exact⟨[],by simp⟩
  |cons f fs=>simp [PZ]at h
 |succ d ih=>
  refine⟨λt l D xs h hD hx=> ?_,λo fs l D X h hD hx=> ?_⟩
  ·obtain⟨D,rfl⟩: ∃k,D=k+1:=⟨D - 1,by omega⟩
   unfold Ig at h
   split at h<;>try (cases h;done)
   ·rename_i k hu
    cases h
    match xs,hx with
    |[x],hx=>
     cases x<;>simp [qm,HY]at hx
     obtain⟨rfl,h2⟩:=hx
     exact⟨_,by simp [Program.keyLits,hu,h2];rfl⟩
    |[],hx=>cases hx
    |_::_::_,hx=>simp [qm]at hx
   ·rename_i hu
    cases h
    match xs,hx with
    |[x],hx=>
     cases x<;>simp [qm,HY]at hx
     exact⟨_,by simp [Program.keyLits,hu,hx];rfl⟩
    |[],hx=>cases hx
    |_::_::_,hx=>simp [qm]at hx
   ·rename_i hu
    cases h
    match xs,hx with
    |[x],hx=>
     cases x<;>simp [qm,HY]at hx
     exact⟨_,by simp [Program.keyLits,hu];rfl⟩
    |[],hx=>cases hx
    |_::_::_,hx=>simp [qm]at hx
   ·rename_i n e hu
    split at h<;>try (cases h;done)
    rename_i l1 h1
    split at h<;>try (cases h;done)
    rename_i hc
    cases h
    have hlen:=Df hx
    have lS:xs.length=P.cellsOf t:=by rw[hlen,hc.2];simp
    have key: ∀(n s:Nat),qm (List.replicate n l1).flatten (xs.drop (s*l1.length))=true-> ∃ls,(List.range' s n).mapM (λi=>P.keyLits D e ((xs.drop (i*P.cellsOf e)).take (P.cellsOf e)))=some ls:=by
     intro n
     induction n with
     |zero=>intro s _;exact⟨[],by simp⟩
     |succ n ihn=>
      intro s hs
      rw[gY,List.flatten_cons]at hs
      obtain⟨x1,x2⟩:=Ns _ _ _ hs
      rw[dS,show s*l1.length+l1.length=(s+1)*l1.length by rw[fC]]at x2
      obtain⟨l2,hl2⟩:=ih.1 e l1 D _ h1 (by omega) x1
      obtain⟨l3,hl3⟩:=ihn (s+1) x2
      rw[<-hc.1]at hl2
      exact⟨l2::l3,by simp [iJ,fA,hl2,hl3]⟩
    obtain⟨ls,hls⟩:=key n 0 (by simpa using hx)
    rw[<-gU]at hls
    exact⟨ls.flatten,by unfold Program.keyLits;simp only[hu,lS,bv,hls,bn]⟩
   ·rename_i fs hu
    split at h<;>try (cases h;done)
    rename_i hb
    split at h<;>try (cases h;done)
    rename_i l1 h1
    split at h<;>try (cases h;done)
    rename_i hc
    cases h
    have lS:xs.length=P.cellsOf t:=by rw[Df hx,hc]
    obtain⟨ls,hls⟩:=ih.2 0 fs.toList l D xs h1 (by omega) (by simpa using hx)
    exact⟨ls.flatten,by unfold Program.keyLits;simp only[hu,lS,hb,and_self,bv,hls,bn]⟩
  ·cases fs with
   |nil=>exact⟨[],by simp⟩
   |cons f fs=>
    unfold PZ at h
    split at h<;>try (cases h;done)
    rename_i l1 h1
    split at h<;>try (cases h;done)
    rename_i hc
    obtain⟨l2,h2,rfl⟩:=aO.1 h
    obtain⟨x1,x2⟩:=Ns _ _ _ hx
    rw[dS]at x2
    obtain⟨a,ha⟩:=ih.1 f.type l1 D _ h1 (by omega) x1
    obtain⟨b,hb⟩:=ih.2 _ fs l2 D X h2 (by omega) x2
    rw[<-hc.1,<-hc.2]at ha
    exact⟨a::b,by simp [fA,ha,hb]⟩
theorem Dh{kt:TypeId}{ks:List Kc}(h:Qa P kt=some ks){v:Value}(hv:Ch ks v=true): ∃l,keyOf P kt v=some l:=by
 unfold Qa at h
 split at h
 ·rename_i l h1
  cases h
  exact Zw h1 hv
 ·unfold ab8 at h
  split at h<;>try (cases h;done)
  rename_i hc
  obtain⟨h1,h2,-,-,h5⟩:=hc
  cases v<;>simp only[Ch,aD]at hv
  rename_i xs
  obtain⟨ls,hls⟩:=(Zx 20).1 kt ks (P.types.size+1) xs.toList h (by omega) hv
  have lS:xs.toList.length=P.cellsOf kt:=by
   rw[Df hv]
   unfold Ig at h
   unfold XI at h1
   split at h<;>try (cases h;done)
   ·rename_i hu;simp [hu]at h1
   ·rename_i hu;simp [hu]at h1
   ·rename_i hu;simp [hu]at h1
   ·split at h<;>try (cases h;done)
    split at h<;>try (cases h;done)
    rename_i hc
    cases h
    rw[hc.2];simp
   ·split at h<;>try (cases h;done)
    split at h<;>try (cases h;done)
    split at h<;>try (cases h;done)
    rename_i hc
    cases h
    exact hc.symm
  refine⟨.string (keyBytes ls),?_⟩
  unfold XI at h1
  unfold keyOf
  split at h1<;>try (cases h1;done)
  all_goals
   rename_i hu
   have hf:(Value.agg xs).formed P kt=true:=by simp only[Value.formed,hu];simpa using lS
   simp only[hu,h2,hf,jl,bv,Value.cells,hls,bn]
theorem Zy{kt:TypeId}{ks:List Kc}(h:PY P kt=some ks):WideMaps.KeyLaw P kt:=by
 unfold PY at h
 split at h<;>try (cases h;done)
 rename_i hc
 exact deep_law (m:=3) (by decide) hc.2.2.1 hc.2.2.2.1 hc.1
theorem Qg{kt:TypeId}{ks:List Kc}(h:Qa P kt=some ks):WideMaps.KeyLaw P kt:=by
 unfold Qa at h
 split at h
 ·rename_i h1;exact Zy h1
 ·unfold ab8 at h
  split at h<;>try (cases h;done)
  rename_i hc
  exact deep_law (m:=8) (by decide) hc.2.2.1 hc.2.2.2.1 hc.1
theorem Zz{ok:Bool}(ho:o.op= .lookup t x y ok)(h:Uw P t x y ok=some k):pO P o k:=by
 unfold Uw at h
 split at h<;>try (cases h;done)
 rename_i kt et ht
 split at h<;>try (cases h;done)
 rename_i d z hd hz
 split at h
 case isFalse=>
  obtain⟨ks,hks,rfl⟩:=aO.1 h
  have L:=Qg hks
  intro G hG a w next Q K KP hf hn _
  simp only[aS,bK,qp]at hf
  obtain⟨l,hm,hk,hkl,hfo,hno⟩:=hf
  obtain⟨lx,hlx⟩:=Dh hks hk
  have hex: ∀v,(Instr.lookup t (a.eval x) (a.eval y) ok).run P w= .ok v w->K v w.heap->o.wp P a w next Q:=λv hv hK=>
   kX (w':=w) (v:=v) (by rw[kr ho];simp [execOp,hv]) (hn _ _ (.refl w) hK)
  have hzv:(zeroValue et).run P w= .ok z w:=by
   obtain⟨i,hi,hz⟩:=gH.1 hz
   simp [zeroValue,typeInfo,hi,hz]
  unfold LB at hm
  split at hm<;>try (exact hm.elim)
  ·rename_i hx
   subst hm
   refine hex (mr z ok false) ?_ (hno (λe he=>by cases he))
   rcases L.find w hlx [] (λe he=>by cases he)with⟨h1,-⟩|⟨j,e,-,h2,-⟩
   ·simp [Instr.lookup,run_underlying ht,hx,L.check w _ hlx,h1,hzv,mr]
   ·simp at h2
  ·rename_i b hx
   obtain⟨es,c,hb,rfl⟩:=hm
   rcases L.find w hlx es.toList (λe he=>Dh hks (hkl e he))with⟨h1,h2⟩|⟨j,e,h1,h2,h3⟩
   ·refine hex (mr z ok false) ?_ (hno h2)
    simp [Instr.lookup,run_underlying ht,hx,MapKept.run_getObj_map hb,L.check w _ hlx,h1,hzv,mr]
   ·refine hex (mr e.val ok true) ?_ (hfo e (aF h2) h3)
    simp [Instr.lookup,run_underlying ht,hx,MapKept.run_getObj_map hb,L.check w _ hlx,h1,mr]
 cases h
 intro G hG a w next Q K KP hf hn _
 simp only[aS,bK,qp]at hf
 obtain⟨l,hm,hk,hks,hfo,hno⟩:=hf
 have hex: ∀v,(Instr.lookup t (a.eval x) (a.eval y) ok).run P w= .ok v w->K v w.heap->o.wp P a w next Q:=λv hv hK=>
  kX (w':=w) (v:=v) (by rw[kr ho];simp [execOp,hv]) (hn _ _ (.refl w) hK)
 have hzv:(zeroValue et).run P w= .ok z w:=by
  obtain⟨i,hi,hz⟩:=gH.1 hz
  simp [zeroValue,typeInfo,hi,hz]
 unfold LB at hm
 split at hm<;>try (exact hm.elim)
 ·rename_i hx
  subst hm
  refine hex (mr z ok false) ?_ (hno (λe he=>by cases he))
  have h0:Instr.findNow d (a.eval y) [] 0=some none:=rfl
  have h1:=MapKept.run_findKey (w:=w) hd h0
  simp [Instr.lookup,run_underlying ht,hx,MapKept.run_checkKey hd hk,h1,hzv,mr]
 ·rename_i b hx
  obtain⟨es,c,hb,rfl⟩:=hm
  rcases MapKept.findNow_spec hk es.toList 0 hks with⟨h1,h2⟩|⟨j,e,h1,h2,h3⟩
  ·refine hex (mr z ok false) ?_ (hno h2)
   simp [Instr.lookup,run_underlying ht,hx,MapKept.run_getObj_map hb,MapKept.run_checkKey hd hk,MapKept.run_findKey hd h1,hzv,mr]
  ·refine hex (mr e.val ok true) ?_ (hfo e (aF h2) h3)
   simp [Instr.lookup,run_underlying ht,hx,MapKept.run_getObj_map hb,MapKept.run_checkKey hd hk,MapKept.run_findKey hd h1,mr]
theorem Qh{z:Operand}(ho:(o.op= .mapUpdate t x y z)\/(o.op= .insert t x y z))(h:XJ P t x y z=some k):pO P o k:=by
 unfold XJ at h
 split at h<;>try (cases h;done)
 rename_i kt et ht
 split at h<;>try (cases h;done)
 rename_i d hd
 split at h
 case isFalse=>
  obtain⟨ks,hks,rfl⟩:=aO.1 h
  have L:=Qg hks
  intro G hG a w next Q K KP hf hn _
  simp only[aS,bK,qp]at hf
  obtain⟨b,es,c,hx,hb,hk,hkl,hfo,hno⟩:=hf
  obtain⟨lx,hlx⟩:=Dh hks hk
  have hex: ∀w',(Instr.mapUpdate t (a.eval x) (a.eval y) (a.eval z)).run P w= .ok () w'->pM w w'->K undef w'.heap->o.wp P a w next Q:=λw' hv hkp hK=>by
   have:(execOp a.eval o).run P w= .ok .skip w':=by
    rcases ho with ho|ho<;>(rw[kr ho];simp [execOp,hv])
   unfold Oper.wp;rw[this]
   exact hn undef w' hkp hK
  rcases L.find w hlx es.toList (λe he=>Dh hks (hkl e he))with⟨h1,h2⟩|⟨j,e,h1,h2,h3⟩
  ·refine hex {w with heap:=w.heap.setIfInBounds b (.map (es.push {key:=a.eval y,val:=a.eval z,born:=c}) (c+1))} ?_ ⟨rfl,rfl,rfl⟩ (hno h2)
   simp [Instr.mapUpdate,run_underlying ht,hx,MapKept.run_getObj_map hb,L.check w _ hlx,h1,MapKept.run_setObj_map _ hb,Result.andThen]
  ·have hj:es[j]? =some e:=by simpa using h2
   refine hex {w with heap:=w.heap.setIfInBounds b (.map (es.modify j λe=>{e with key:=a.eval y,val:=a.eval z}) c)} ?_ ⟨rfl,rfl,rfl⟩ (hfo j e hj h3)
   simp [Instr.mapUpdate,run_underlying ht,hx,MapKept.run_getObj_map hb,L.check w _ hlx,h1,hj,h3,L.stays w hlx,MapKept.run_setObj_map _ hb,Result.andThen]
 cases h
 intro G hG a w next Q K KP hf hn _
 simp only[aS,bK,qp]at hf
 obtain⟨b,es,c,hx,hb,hk,hks,hfo,hno⟩:=hf
 have hex: ∀w',(Instr.mapUpdate t (a.eval x) (a.eval y) (a.eval z)).run P w= .ok () w'->pM w w'->K undef w'.heap->o.wp P a w next Q:=λw' hv hkp hK=>
by
  have:(execOp a.eval o).run P w= .ok .skip w':=by
   rcases ho with ho|ho<;>(rw[kr ho];simp [execOp,hv])
  unfold Oper.wp;rw[this]
  exact hn undef w' hkp hK
 rcases MapKept.findNow_spec hk es.toList 0 hks with⟨h1,h2⟩|⟨j,e,h1,h2,h3⟩
 ·refine hex {w with heap:=w.heap.setIfInBounds b (.map (es.push {key:=a.eval y,val:=a.eval z,born:=c}) (c+1))} ?_ ⟨rfl,rfl,rfl⟩ (hno h2)
  simp [Instr.mapUpdate,run_underlying ht,hx,MapKept.run_getObj_map hb,MapKept.run_checkKey hd hk,MapKept.run_findKey hd h1,MapKept.run_setObj_map _ hb,Result.andThen]
 ·have hj:es[j]? =some e:=by simpa using h2
  refine hex {w with heap:=w.heap.setIfInBounds b (.map (es.modify j λe=>{e with key:=a.eval y,val:=a.eval z}) c)} ?_ ⟨rfl,rfl,rfl⟩ (hfo j e hj h3)
  simp [Instr.mapUpdate,run_underlying ht,hx,MapKept.run_getObj_map hb,MapKept.run_checkKey hd hk,MapKept.run_findKey hd h1,hj,h3,MapKept.run_keyThatStays hk,MapKept.run_setObj_map _ hb,Result.andThen]
theorem Bd(h:tr P o=some k):pO P o k:=by
 cases ho:o.op<;>simp only[tr,ho]at h<;>try (cases h;exact Ey)
 case move=>exact Zj ho h
 case assign=>cases h;exact acd ho
 case pick=>exact Zk ho h
 case nilCheck=>exact ace ho h
 case fieldAddr=>exact lu h (Ih ho)
 case load=>exact lu h (Zm ho)
 case binOp=>
  split at h
  ·rename_i k' hk;cases h;exact ach ho hk
  ·exact lu h (Zt ho)
 case unOp=>exact lu h (afP ho)
 case convert=>exact lu h (Zn ho)
 case extract=>cases h;exact acf ho
 case field=>exact lu h (Uy ho)
 case index=>exact lu h (Uz ho)
 case indexAddr=>exact lu h (Ik ho)
 case slice=>exact lu h (UA ho)
 case build=>exact lu h (UB ho)
 case call=>exact lu h (Zv ho)
 case box=>cases h;exact aci ho
 case buildSlice=>exact lu h (acn ho)
 case makeSlice=>exact lu h (acm ho)
 case makeInterface=>exact lu h (acj ho)
 case makeFunc=>cases h;exact ack ho
 case makeMap t r=>
  cases r with
  |none=>cases h;exact acu ho
  |some r=>cases h;exact Ey
 case lookup=>exact lu h (Zz ho)
 case mapUpdate=>exact lu h (Qh (.inl ho))
 case insert=>exact lu h (Qh (.inr ho))
 case panic=>cases h;exact acs ho
 case alloc=>exact lu h (UC ho)
 case store=>exact lu h (UD ho)
end
end Go.Ev
