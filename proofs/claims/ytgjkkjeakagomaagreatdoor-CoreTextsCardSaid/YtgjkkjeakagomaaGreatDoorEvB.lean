/- A part of the proof. -/
import Derived.Test.YtgjkkjeakagomaaGreatDoorEvA
import Derived.Scope
import Derived.WalkMore
set_option linter.all false
namespace Go.Ev
/-! ### Expressions -/
inductive E where
 |t (n:Nat)|c (v:Value)|o1 (q:Q1) (a:E)|o2 (q:Q2) (a b:E)|o3 (q:Q3) (a b c:E)
 deriving Inhabited
def val:E->ku->H->Value
 | .t n,σ,_=>σ n
 | .c v,_,_=>v
 | .o1 q a,σ,h=>v1 q (val a σ h) h
 | .o2 q a b,σ,h=>v2 q (val a σ h) (val b σ h) h
 | .o3 q a b c,σ,h=>v3 q (val a σ h) (val b σ h) (val c σ h) h
def abI:Q1->Bool| .ld1| .ldn _=>true|_=>false
def Xw:E->Bool
 | .t _| .c _=>false
 | .o1 q a=>abI q || Xw a
 | .o2 _ a b=>Xw a || Xw b
 | .o3 _ a b c=>Xw a || Xw b || Xw c
def Eu(n:Nat):E->Bool
 | .t m=>m == n
 | .c _=>false
 | .o1 _ a=>Eu n a
 | .o2 _ a b=>Eu n a || Eu n b
 | .o3 _ a b c=>Eu n a || Eu n b || Eu n c
def jI(σ:ku)(d:Nat)(v:Value):ku:=λi=>if i=d then v else σ i
def nD(σ:ku)(d:Option Nat)(v:Value):ku:=match d with|some d=>jI σ d v|none=>σ
theorem Xx{q:Q1}(h:abI q=false)(x:Value)(h1 h2:H):v1 q x h1=v1 q x h2:=by cases q<;>first|rfl|cases h
theorem ahq(q:Q2)(x y:Value)(h1 h2:H):v2 q x y h1=v2 q x y h2:=by cases q<;>rfl
theorem ahr(q:Q3)(x y z:Value)(h1 h2:H):v3 q x y z h1=v3 q x y z h2:=by cases q<;>rfl
theorem ah6{e:E}(hd:Xw e=false)(σ:ku)(h1 h2:H):val e σ h1=val e σ h2:=by
 induction e with
 |t=>rfl
 |c=>rfl
 |o1 q a ih=>simp only[Xw,dx]at hd;simp only[val,ih hd.2];exact Xx hd.1 _ _ _
 |o2 q a b iha ihb=>simp only[Xw,dx]at hd;simp only[val,iha hd.1,ihb hd.2];exact ahq _ _ _ _ _
 |o3 q a b c iha ihb ihc=>simp only[Xw,dx]at hd;simp only[val,iha hd.1.1,ihb hd.1.2,ihc hd.2];exact ahr _ _ _ _ _ _
theorem MR{e:E}{d:Nat}(hm:Eu d e=false)(σ:ku)(v:Value)(h:H):val e (jI σ d v) h=val e σ h:=by
 induction e with
 |t m=>simp only[Eu,beq_eq_false_iff_ne]at hm;simp [val,jI,hm]
 |c=>rfl
 |o1 q a ih=>simp only[Eu]at hm;simp only[val,ih hm]
 |o2 q a b iha ihb=>simp only[Eu,dx]at hm;simp only[val,iha hm.1,ihb hm.2]
 |o3 q a b c iha ihb ihc=>simp only[Eu,dx]at hm;simp only[val,iha hm.1.1,ihb hm.1.2,ihc hm.2]
/-! ### Small statements -/
inductive Chk where
 |c1 (q:Q1) (a:E)|c2 (q:Q2) (a b:E)|c3 (q:Q3) (a b c:E)|cb (size:Nat) (ps:List (Nat×Nat×E))
 deriving Inhabited
def yD:Chk->ku->H->Prop
 | .c1 q a,σ,h=>s1 q (val a σ h) h
 | .c2 q a b,σ,h=>s2 q (val a σ h) (val b σ h) h
 | .c3 q a b c,σ,h=>s3 q (val a σ h) (val b σ h) (val c σ h) h
 | .cb n ps,σ,h=> ∀p∈ps,(val p.2.2 σ h).cells.size=p.2.1/\p.1+p.2.1<=n
abbrev Gs:=List (E×Bool)
def CW(gs:Gs)(σ:ku)(h:H):Bool:=gs.all λp=>Zh (val p.1 σ h) p.2
def rT(p:Value)(n:Option Nat)(h h':H):Prop:=match p with
 | .pointer (some ⟨b,o,none⟩)=>match n with
  |none=>o<lS h' b/\hv h' b o=hv h b o
  |some n=>o+n<=lS h' b/\qV h' b o n=qV h b o n
 |_=>True
abbrev su:=List (Gs×E×Option Nat)
def mq(l:su)(σ:ku)(h h':H):Prop:= ∀p∈l,CW p.1 σ h=true->rT (val p.2.1 σ h) p.2.2 h h'
inductive St where
 |set (d:Nat) (e:E)|chk (gs:Gs) (c:Chk)|eff (gs:Gs) (d:Option Nat) (f:F) (xs:List E) (st:su)
 deriving Inhabited
def abJ(G:lq)(s:St)(K:ku->H->Prop)(KP:List PanicEntry->H->Prop)(σ:ku)(h:H):Prop:=match s with
 | .set d e=>K (jI σ d (val e σ h)) h
 | .chk gs c=>(CW gs σ h=true->yD c σ h)/\K σ h
 | .eff gs d f xs st=>(CW gs σ h=true->qp G f (xs.map λe=>val e σ h) h (λv h'=>mq st σ h h'/\K (nD σ d v) h') KP)/\
   (CW gs σ h=false->K (nD σ d undef) h)
def kT(G:lq)(l:List St)(K:ku->H->Prop)(KP:List PanicEntry->H->Prop)(σ:ku)(h:H):Prop:=match l with
 |[]=>K σ h
 |s::r=>abJ G s (kT G r K KP) KP σ h
theorem pW{G:lq}{K:ku->H->Prop}{KP:List PanicEntry->H->Prop}: ∀(l r:List St) (σ:ku) (h:H),kT G (l++r) K KP σ h=kT G l (kT G r K KP) KP σ h
 |[],_,_,_=>rfl
 |s::l,r,σ,h=>by
  simp only[aP,kT]
  congr 1
  funext σ' h'
  exact pW l r σ' h'
/-! ### From operations to statements -/
structure ql where
 t:Nat
 e:E
 g:List (Nat×Bool)
def find(δ:List ql)(t:Nat):Option ql:=δ.find? λp=>p.t == t
def Po(lv:Nat->Bool)(δ:List ql)(g:List (Nat×Bool)):Operand->Option E
 | .tmp t=>if lv t then some (.t t)else match find δ t with
  |some p=>if p.g.all (g.contains ·)then some p.e else none
  |none=>none
 | .const v=>some (.c v)
 | .global n=>some (.c (.pointer (some ⟨n,0,none⟩)))
 | .func f=>some (.c (.func (.func f) #[] #[]))
def ae2(lv:Nat->Bool)(δ:List ql)(g:List (Nat×Bool)):List Operand->Option (List E)
 |[]=>some []
 |x::r=>match Po lv δ g x,ae2 lv δ g r with
  |some e,some l=>some (e::l)
  |_,_=>none
def Xy(lv:Nat->Bool)(δ:List ql)(g:List (Nat×Bool)):List (Nat×Nat×Operand)->Option (List (Nat×Nat×E))
 |[]=>some []
 |(o,n,x)::r=>match Po lv δ g x,Xy lv δ g r with
  |some e,some l=>some ((o,n,e)::l)
  |_,_=>none
def Ca(δ:List ql):List (Nat×Bool)->Option Gs
 |[]=>some []
 |(s,b)::r=>match find δ s,Ca δ r with
  |some p,some l=>some ((p.e,b)::l)
  |_,_=>none
def nW(δ:List ql):List (Nat×Bool)->Bool
 |[]=>true
 |(s,_)::r=>(match find δ s with|some p=>decide (p.g=r)|none=>false) && nW δ r
def yE(ops:Array Oper)(δ:List ql)(o:Oper):Option (List (Nat×Bool)):=match o.guard with
 |none=>some []
 |some (j,want)=>match(ops[j]?).bind (·.dst)with
  |some s=>match find δ s with
   |some p=>some ((s,want)::p.g)
   |none=>none
  |none=>none
def ajM(z:Array Value)(ps:List (Nat×Nat×E)):E:=ps.foldl (λa p=> .o2 (.put p.1 p.2.1) a p.2.2) (.c (.agg z))
def uJ(lv:Nat->Bool)(δ:List ql)(g:List (Nat×Bool)):K->Option (Option Chk×E)
 | .q1 .id x=>(Po lv δ g x).map λa=>(none,a)
 | .q1 .nilck x=>(Po lv δ g x).map λa=>(some (.c1 .nilck a),a)
 | .q1 q x=>(Po lv δ g x).map λa=>(some (.c1 q a),.o1 q a)
 | .q2 q x y=>match Po lv δ g x,Po lv δ g y with
  |some a,some b=>some (some (.c2 q a b),.o2 q a b)
  |_,_=>none
 | .q3 .pick (.tmp c) x y=>match Po lv δ g (.tmp c),Po lv δ ((c,true)::g) x,Po lv δ ((c,false)::g) y with
  |some a,some b,some d=>some (some (.c3 .pick a b d),.o3 .pick a b d)
  |_,_,_=>none
 | .q3 .pick _ _ _=>none
 | .q3 q x y z=>match Po lv δ g x,Po lv δ g y,Po lv δ g z with
  |some a,some b,some c=>some (some (.c3 q a b c),.o3 q a b c)
  |_,_,_=>none
 | .bld z ps=>(Xy lv δ g ps).map λl=>(some (.cb z.size l),ajM z l)
 | .asg x=>(Po lv δ g x).map λa=>(none,a)
 | .ef _ _=>none
def BK(turns:E->Bool):List ql->List St×List ql
 |[]=>([],[])
 |p::r=>if turns p.e then(.set p.t p.e::(BK turns r).1,⟨p.t,.t p.t,p.g⟩::(BK turns r).2)else((BK turns r).1,p::(BK turns r).2)
def lay(turns:E->Bool)(δ:List ql):Option (List St×List ql):=
 if δ.all (λp=> !turns p.e || δ.all λq=> !Eu p.t q.e)then some (BK turns δ)else none
def Ui(later:Nat->Bool)(δ:List ql):Option (List ql):=
 if(δ.filter λp=>later p.t).all (λp=>nW (δ.filter λp=>later p.t) p.g)then some (δ.filter λp=>later p.t)else none
def ah7(gs:Gs):Option Chk->List St
 |none=>[]
 |some c=>[.chk gs c]
def Py(P:Program)(lv:Nat->Bool)(N:Nat)(ops:Array Oper)(δ:List ql)(later:Nat->Bool)(o:Oper)(k:K):Option (List St×List ql):=
 match o.dst with
 |none=>none
 |some d=>if lv d then
   match o.guard,lay (Eu d) δ with
   |none,some (l,δ1)=>match uJ lv δ1 [] k with
    |some (c,e)=>if d<N && δ1.all (λp=> !Eu d p.e)then(Ui later δ1).map λδ2=>(l++ah7 [] c++[.set d e],δ2)else none
    |none=>none
   |_,_=>none
  else match yE ops δ o with
   |some g=>match Ca δ g,uJ lv δ g k with
    |some gs,some (c,e)=>if d<N && (find δ d).isNone then(Ui later (⟨d,e,g⟩::δ)).map λδ2=>(ah7 gs c,δ2)else none
    |_,_=>none
   |none=>none
abbrev Tau:=List (Operand×List (Nat×Bool)×Option Nat)
def Xz(lv:Nat->Bool)(δ:List ql):Tau->Option su
 |[]=>some []
 |(x,g,n)::r=>match Ca δ g,Po lv δ g x,Xz lv δ r with
  |some gs,some e,some l=>if nW δ g then some ((gs,e,n)::l)else none
  |_,_,_=>none
def XC(P:Program)(lv:Nat->Bool)(N:Nat)(ops:Array Oper)(δ:List ql)(later:Nat->Bool)(tau:Tau)(o:Oper)(f:F)(xs:List Operand):Option (List St×List ql):=
 match lay Xw δ with
 |none=>none
 |some (l,δ1)=>match yE ops δ1 o with
  |none=>none
  |some g=>match Ca δ1 g,ae2 lv δ1 g xs,Xz lv δ1 tau with
   |some gs,some es,some st=>match o.dst with
    |none=>(Ui later δ1).map λδ2=>(l++[.eff gs none f es st],δ2)
    |some d=>if lv d then
      if g.isEmpty && decide (d<N) && δ1.all (λp=> !Eu d p.e)then(Ui later δ1).map λδ2=>(l++[.eff gs (some d) f es st],δ2)else none
     else if d<N && (find δ1 d).isNone && δ1.all (λp=> !Eu d p.e)then(Ui later (⟨d,.t d,g⟩::δ1)).map λδ2=>(l++[.eff gs (some d) f es st],δ2)else none
   |_,_,_=>none
/-! ### The tie between a frame and the small statements -/
def gh(a:Act)(g:List (Nat×Bool)):Bool:=g.all λp=>Zh (a.tmps.getD p.1 undef) p.2
abbrev DS:=OfNat (List Deferred) 77
abbrev DS.d [DS]:List Deferred:=OfNat.ofNat 77
structure uR [DS] (lv:Nat->Bool) (N:Nat) (a:Act) (σ:ku) (h:H) (δ:List ql):Prop where
 lvs: ∀i,lv i=true->a.tmps.getD i undef=σ i
 sz:a.tmps.size=N
 df:a.defers=DS.d
 pend: ∀t p,find δ t=some p->gh a p.g=true->a.tmps.getD t undef=val p.e σ h
 skip: ∀t p,find δ t=some p->gh a p.g=false->a.tmps.getD t undef=undef
 chain: ∀t p,find δ t=some p->nW δ p.g=true
 nlv: ∀t p,find δ t=some p->lv t=false
 nd:(δ.map (·.t)).Nodup
section
set_option linter.unusedVariables false
variable {P:Program} {lv:Nat->Bool} {N:Nat} {ops:Array Oper} {δ:List ql} {a:Act} {σ:ku} {h:H} {o:Oper} {g:List (Nat×Bool)} {gs:Gs} {e:E} {x:Operand}
theorem AZ [DS](R:uR lv N a σ h δ): ∀(g:List (Nat×Bool)) (gs:Gs),nW δ g=true->Ca δ g=some gs->CW gs σ h=gh a g
 |[],gs,_,hg=>by cases hg;rfl
 |(s,b)::r,gs,hc,hg=>by
  simp only[nW,aM]at hc
  simp only[Ca]at hg
  cases hf:find δ s with
  |none=>simp [hf]at hg
  |some p=>
   cases hr:Ca δ r with
   |none=>simp [hf,hr]at hg
   |some l=>
    simp only[hf,hr,aQ]at hg
    subst hg
    have hp:p.g=r:=by simpa [hf]using hc.1
    have ih:=AZ R r l hc.2 hr
    show(Zh (val p.e σ h) b && CW l σ h)=(Zh (a.tmps.getD s undef) b && gh a r)
    rw[ih]
    cases hb:gh a r with
    |false=>simp
    |true=>rw[R.pend s p hf (by rw[hp];exact hb)]
theorem rJ [DS](R:uR lv N a σ h δ)(hg:gh a g=true)(hx:Po lv δ g x=some e):a.eval x=val e σ h:=by
 cases x with
 |tmp t=>
  simp only[Po]at hx
  split at hx
  ·rename_i hl;cases hx;exact R.lvs t hl
  ·split at hx<;>try (cases hx;done)
   rename_i p hf
   split at hx<;>cases hx
   rename_i hall
   refine R.pend t p hf ?_
   simp only[gh,bI]at hg ⊢
   intro q hq
   exact hg q (by have:=(bI.1 hall) q hq;simpa using this)
 |const v=>cases hx;rfl
 |global n=>cases hx;rfl
 |func f=>cases hx;rfl
theorem XD [DS](R:uR lv N a σ h δ)(hg:gh a g=true): ∀(xs:List Operand) (es:List E),ae2 lv δ g xs=some es->xs.map a.eval=es.map λe=>val e σ h
 |[],es,hx=>by cases hx;rfl
 |x::r,es,hx=>by
  simp only[ae2]at hx
  split at hx<;>cases hx
  rename_i e l h1 h2
  simp [rJ R hg h1,XD R hg r l h2]
theorem Pz [DS](R:uR lv N a σ h δ)(hg:gh a g=true): ∀(ps:List (Nat×Nat×Operand)) (es:List (Nat×Nat×E)),Xy lv δ g ps=some es->
  ps.map (λp=>(p.1,p.2.1,a.eval p.2.2))=es.map λp=>(p.1,p.2.1,val p.2.2 σ h)
 |[],es,hx=>by cases hx;rfl
 |(o,n,x)::r,es,hx=>by
  simp only[Xy]at hx
  split at hx<;>cases hx
  rename_i e l h1 h2
  simp [rJ R hg h1,Pz R hg r l h2]
theorem PD: ∀(es:List (Nat×Nat×E)) (z:Array Value) (e0:E),val e0 σ h= .agg z->
  val (es.foldl (λa p=> .o2 (.put p.1 p.2.1) a p.2.2) e0) σ h= .agg ((es.map λp=>(p.1,p.2.1,val p.2.2 σ h)).foldl (λcs p=>zL cs p.1 p.2.2) z)
 |[],z,e0,h0=>h0
 |p::r,z,e0,h0=>by
  simp only[bN,aS]
  exact PD r (zL z p.1 (val p.2.2 σ h)) _ (by simp only[val,h0,v2])
def PE(c:Option Chk)(σ:ku)(h:H):Prop:=match c with|none=>True|some c=>yD c σ h
def XE:K->Option (Operand×Option Nat)
 | .q1 .ld1 x=>some (x,none)
 | .q1 (.ldn n) x=>some (x,some n)
 |_=>none
def CY(k:K)(a:Act)(h h':H):Prop:=match XE k with|none=>True|some (x,n)=>rT (a.eval x) n h h'
theorem Hg{p:Value}{n:Option Nat}{h:H}{q:Q1}(hq:q=match n with|none=> .ld1|some n=> .ldn n)(hs:s1 q p h):rT p n h h:=by
 subst hq
 unfold rT
 split<;>try trivial
 cases n<;>simp_all [s1]
theorem Hl [DS]{k:K}{c:Option Chk}(R:uR lv N a σ h δ)(hg:gh a g=true)(hq:uJ lv δ g k=some (c,e))(hc:PE c σ h):CY k a h h:=by
 unfold CY XE
 split
 ·trivial
 ·rename_i x' n hk
  split at hk<;>cases hk
  ·simp only[uJ,aO,dB]at hq
   obtain⟨e',he,rfl,rfl⟩:=hq
   simp only[PE,yD]at hc
   rw[<-rJ R hg he]at hc
   exact Hg rfl hc
  ·simp only[uJ,aO,dB]at hq
   obtain⟨e',he,rfl,rfl⟩:=hq
   simp only[PE,yD]at hc
   rw[<-rJ R hg he]at hc
   exact Hg rfl hc
theorem ajN{q:Q1}(h:abI q=false){x:Value}{h1 h2:H}(hs:s1 q x h1):s1 q x h2:=by cases q<;>first|exact hs|cases h
theorem ajO{q:Q2}{x y:Value}{h1 h2:H}(hs:s2 q x y h1):s2 q x y h2:=by cases q<;>exact hs
theorem ajP{q:Q3}{x y z:Value}{h1 h2:H}(hs:s3 q x y z h1):s3 q x y z h2:=by cases q<;>exact hs
theorem Lr [DS](R:uR lv N a σ h δ)(hg:gh a g=true){k:K}{c:Option Chk}(hs:pO P o k)(hq:uJ lv δ g k=some (c,e))(hc:PE c σ h)(w:World)(hw:CY k a h w.heap):
  (execOp a.eval o).run P w= .ok (.value (val e σ h)) w:=by
 cases k with
 |ef f xs=>cases hq
 |asg x=>
  simp only[uJ,aO,dB]at hq
  obtain⟨e',he,rfl,rfl⟩:=hq
  rw[<-rJ R hg he];exact hs a.eval w
 |bld z ps=>
  simp only[uJ,aO,dB]at hq
  obtain⟨es,he,rfl,rfl⟩:=hq
  have hm:=Pz R hg ps es he
  have hc': ∀p∈es.map (λp=>(p.1,p.2.1,val p.2.2 σ h)),p.2.2.cells.size=p.2.1/\p.1+p.2.1<=z.size:=by
   intro p hp;obtain⟨q,hq,rfl⟩:=bF.1 hp;exact hc q hq
  rw[<-hm]at hc'
  have:=hs a.eval w (λp hp=>hc' _ (bF.2 ⟨p,hp,rfl⟩))
  rw[this,ajM,PD es z _ rfl,<-hm,List.foldl_map]
 |q1 q x=>
  have gen: ∀a',Po lv δ g x=some a'->s1 q (val a' σ h) h->(execOp a.eval o).run P w= .ok (.value (v1 q (val a' σ h) h)) w:=by
   intro a' he hc
   have e1:=rJ R hg he
   rw[<-e1]at hc ⊢
   by_cases hd:abI q=false
   ·rw[Xx hd _ h w.heap];exact hs a.eval w (ajN hd hc)
   ·have key:s1 q (a.eval x) w.heap/\v1 q (a.eval x) w.heap=v1 q (a.eval x) h:=by
     cases q<;>simp only[abI,not_true_eq_false]at hd
     all_goals
      simp only[CY,XE]at hw
      simp only[s1]at hc
      split at hc<;>try (exact hc.elim)
      rename_i b o' hx
      rw[hx]at hw ⊢
      simp only[rT]at hw
      simp only[s1,v1]
      exact⟨hw.1,by rw[hw.2]⟩
    rw[<-key.2];exact hs a.eval w key.1
  cases q<;>simp only[uJ,aO,dB]at hq<;>obtain⟨a',he,rfl,rfl⟩:=hq
  case id=>exact gen a' he trivial
  all_goals exact gen a' he hc
 |q2 q x y=>
  simp only[uJ]at hq
  split at hq<;>cases hq
  rename_i a1 b1 h1 h2
  have e1:=rJ R hg h1;have e2:=rJ R hg h2
  simp only[PE,yD]at hc
  simp only[val]
  rw[<-e1,<-e2]at hc ⊢
  rw[ahq q _ _ h w.heap]
  exact hs a.eval w (ajO hc)
 |q3 q x y z=>
  have gen:q≠ .pick->(execOp a.eval o).run P w= .ok (.value (val e σ h)) w:=by
   intro hne
   cases q<;>simp only[ne_eq,not_true_eq_false]at hne<;>simp only[uJ]at hq<;>split at hq<;>cases hq
   all_goals
    rename_i a1 b1 c1 h1 h2 h3
    have e1:=rJ R hg h1;have e2:=rJ R hg h2;have e3:=rJ R hg h3
    simp only[PE,yD]at hc
    simp only[val]
    rw[<-e1,<-e2,<-e3]at hc ⊢
    rw[ahr _ _ _ _ h w.heap]
    exact hs a.eval w (ajP hc)
  cases q with
  |pick=>
   cases x<;>simp only[uJ]at hq<;>try (cases hq;done)
   rename_i c
   split at hq<;>cases hq
   rename_i a1 b1 c1 h1 h2 h3
   have e1:=rJ R hg h1
   simp only[PE,yD]at hc
   rw[<-e1]at hc
   have:=hs a.eval w hc
   rw[this]
   simp only[val,v3]
   rw[<-e1]
   simp only[s3]at hc
   have key: ∀b,a.eval (.tmp c)= .bool b->gh a ((c,b)::g)=true:=by
    intro b hb
    simp only[Act.eval]at hb
    simp only[gh,il,aM]
    exact⟨by rw[hb];simp [Zh],hg⟩
   cases hv:a.eval (.tmp c)<;>simp [hv,qC]at hc
   rename_i b
   cases b
   ·simp only[tb,aD,aW];rw[rJ R (key false hv) h3]
   ·simp only[tb,bv];rw[rJ R (key true hv) h2]
  |_=>exact gen zP
theorem PG [DS](R:uR lv N a σ h δ): ∀(tau:Tau) (st:su),Xz lv δ tau=some st-> ∀h',mq st σ h h'-> ∀p∈tau,gh a p.2.1=true->rT (a.eval p.1) p.2.2 h h'
 |[],st,_,h',_,p,hp=>by cases hp
 |(x,g,n)::r,st,hs,h',hst,p,hp=>by
  simp only[Xz]at hs
  split at hs<;>try (cases hs;done)
  rename_i gs e l h1 h2 h3
  split at hs<;>cases hs
  rename_i hch
  rcases aH.1 hp with rfl|hp
  ·intro hgh
   have:=hst (gs,e,n) zP (by rw[AZ R g gs hch h1];exact hgh)
   rw[rJ R hgh h2];exact this
  ·exact PG R r l h3 h' (λq hq=>hst q (by simp [hq])) p hp
end
end Go.Ev
namespace Go.Ev
section
variable {P:Program} {G:lq} {lv:Nat->Bool} {N:Nat} {ops:Array Oper} {δ δ1 δ2:List ql} {a:Act} {σ:ku} {h:H} {o:Oper} {g:List (Nat×Bool)} {gs:Gs} {e:E} {x:Operand} {later:Nat->Bool}
 {K:ku->H->Prop} {KP:List PanicEntry->H->Prop} {l:List St}
theorem zF{t:Nat}{p:ql}(hf:find δ t=some p):p∈δ/\p.t=t:=by
 unfold find at hf
 exact⟨iF hf,by simpa using List.find?_some hf⟩
theorem PH(t:Nat):find (δ.filter λp=>later p.t) t=if later t then find δ t else none:=by
 unfold find
 induction δ with
 |nil=>simp
 |cons p r ih=>
  simp only[gQ]
  by_cases hp:p.t=t
  ·subst hp
   cases hl:later p.t with
   |true=>simp
   |false=>simp only[aD,aW];rw[ih];simp [hl]
  ·have hb:(p.t == t)=false:=by simpa using hp
   cases hl:later p.t with
   |true=>simp only[bv,iW,hb];exact ih
   |false=>simp only[aD,aW,iW,hb];exact ih
theorem xH{p:ql}(hp:p∈δ): ∃q,find δ p.t=some q:=by
 unfold find
 cases hf:δ.find? (λq=>q.t == p.t)with
 |some q=>exact⟨q,rfl⟩
 |none=>exact absurd (dF.1 hf p hp) zP
theorem xI [DS](ht:Ui later δ=some δ2)(R:uR lv N a σ h δ):uR lv N a σ h δ2:=by
 unfold Ui at ht
 split at ht<;>cases ht
 rename_i hall
 have key: ∀t p,find (δ.filter λp=>later p.t) t=some p->find δ t=some p:=by
  intro t p hf;rw[PH]at hf;split at hf
  ·exact hf
  ·cases hf
 exact⟨R.lvs,R.sz,R.df,λt p hf=>R.pend t p (key t p hf),λt p hf=>R.skip t p (key t p hf),
  λt p hf=>(bI.1 hall) p (zF hf).1,λt p hf=>R.nlv t p (key t p hf),(fT.map _).nodup R.nd⟩
theorem oJ{d i:Nat}{v:Value}(hne:i≠d):(a.put (some d) v).tmps.getD i undef=a.tmps.getD i undef:=by
 simp [Act.put,cz,eD (gF hne)]
theorem zG{d:Nat}{v:Value}(hd:d<a.tmps.size):(a.put (some d) v).tmps.getD d undef=v:=by
 simp [Act.put,cz,hd]
theorem yF: ∀(g:List (Nat×Bool)),nW δ g=true-> ∀q∈g,(find δ q.1).isSome=true
 |[],_,q,hq=>by cases hq
 |(s,b)::r,hc,q,hq=>by
  simp only[nW,aM]at hc
  rcases aH.1 hq with rfl|hq
  ·cases hf:find δ s with
   |none=>simp [hf]at hc
   |some p=>simp
  ·exact yF r hc.2 q hq
theorem Uj{d:Nat}{v:Value}(hd: ∀q∈g,q.1≠d):gh (a.put (some d) v) g=gh a g:=by
 unfold gh
 apply bS.2
 simp only[bI]
 exact⟨λH q hq=>by have:=H q hq;rwa [oJ (hd q hq)]at this,λH q hq=>by rw[oJ (hd q hq)];exact H q hq⟩
theorem abK [DS]{d:Nat}{v:Value}(hl:lv d=true)(hd:d<N)(hm:δ.all (λp=> !Eu d p.e)=true)(R:uR lv N a σ h δ):uR lv N (a.put (some d) v) (jI σ d v) h δ:=by
 have hnd: ∀t p,find δ t=some p->t≠d:=λt p hf he=>by have:=R.nlv t p hf;rw[he,hl]at this;cases this
 have hg: ∀t p,find δ t=some p->gh (a.put (some d) v) p.g=gh a p.g:=λt p hf=>Uj λq hq he=>by
  obtain⟨p',hp'⟩:=dC.1 (yF p.g (R.chain t p hf) q hq)
  exact hnd _ _ hp' he
 refine⟨λi hi=> ?_,by simp [Act.put,R.sz],by simp [Act.put,R.df],λt p hf hgh=> ?_,λt p hf hgh=> ?_,R.chain,R.nlv,R.nd⟩
 ·by_cases he:i=d
  ·subst he;rw[zG (by rw[R.sz];exact hd)];simp [jI]
  ·rw[oJ he,R.lvs i hi];simp [jI,he]
 ·rw[oJ (hnd t p hf),R.pend t p hf (by rw[<-hg t p hf];exact hgh)]
  exact(MR (by have:=(bI.1 hm) p (zF hf).1;simpa using this) σ v h).symm
 ·rw[oJ (hnd t p hf)];exact R.skip t p hf (by rw[<-hg t p hf];exact hgh)
theorem sD{p:ql}{t:Nat}(hne:p.t≠t):find (p::δ) t=find δ t:=by
 unfold find;exact fF (by simpa using hne)
theorem yG{p:ql}:find (p::δ) p.t=some p:=by
 unfold find;exact List.find?_cons_of_pos zP
theorem Cc{p:ql}(hf:find δ p.t=none): ∀(g:List (Nat×Bool)),nW δ g=true->nW (p::δ) g=true
 |[],_=>rfl
 |(s,b)::r,hc=>by
  have hs:(find δ s).isSome=true:=yF _ hc (s,b) zP
  have hne:p.t≠s:=λhe=>by rw[<-he,hf]at hs;cases hs
  simp only[nW,aM]at hc ⊢
  rw[sD hne]
  exact⟨hc.1,Cc hf r hc.2⟩
theorem MS [DS] {d:Nat} {v:Value} (hl:lv d=false) (hd:d<N) (hn:find δ d=none) (hc:nW δ g=true) (R:uR lv N a σ h δ)
  (hv:gh a g=true->v=val e σ h) (hu:gh a g=false->v=undef):uR lv N (a.put (some d) v) σ h (⟨d,e,g⟩::δ):=by
 have hnd: ∀t p,find δ t=some p->t≠d:=λt p hf he=>by rw[he,hn]at hf;cases hf
 have hch: ∀(g:List (Nat×Bool)),nW δ g=true->gh (a.put (some d) v) g=gh a g:=λg hc=>Uj λq hq he=>by
  obtain⟨p',hp'⟩:=dC.1 (yF g hc q hq)
  exact hnd _ _ hp' he
 refine⟨λi hi=> ?_,by simp [Act.put,R.sz],by simp [Act.put,R.df],λt p hf hgh=> ?_,λt p hf hgh=> ?_,λt p hf=> ?_,λt p hf=> ?_,?_⟩
 ·rw[oJ (λhe=>by rw[he,hl]at hi;cases hi),R.lvs i hi]
 ·by_cases ht:d=t
  ·subst ht
   have:=hf.symm.trans (yG (p:=⟨d,e,g⟩) (δ:=δ));cases this
   rw[zG (by rw[R.sz];exact hd)];exact hv (by rw[<-hch g hc];exact hgh)
  ·rw[sD (p:=⟨d,e,g⟩) ht]at hf
   rw[oJ (gF ht)];exact R.pend t p hf (by rw[<-hch _ (R.chain t p hf)];exact hgh)
 ·by_cases ht:d=t
  ·subst ht
   have:=hf.symm.trans (yG (p:=⟨d,e,g⟩) (δ:=δ));cases this
   rw[zG (by rw[R.sz];exact hd)];exact hu (by rw[<-hch g hc];exact hgh)
  ·rw[sD (p:=⟨d,e,g⟩) ht]at hf
   rw[oJ (gF ht)];exact R.skip t p hf (by rw[<-hch _ (R.chain t p hf)];exact hgh)
 ·by_cases ht:d=t
  ·subst ht
   have:=hf.symm.trans (yG (p:=⟨d,e,g⟩) (δ:=δ));cases this
   exact Cc hn _ hc
  ·rw[sD (p:=⟨d,e,g⟩) ht]at hf
   exact Cc hn _ (R.chain t p hf)
 ·by_cases ht:d=t
  ·subst ht;exact hl
  ·rw[sD (p:=⟨d,e,g⟩) ht]at hf;exact R.nlv t p hf
 ·simp only[aS,iX]
  refine⟨λhm=> ?_,R.nd⟩
  obtain⟨p,hp,he⟩:=bF.1 hm
  obtain⟨q,hq⟩:=xH hp
  rw[he,hn]at hq;cases hq
theorem vw(turns:E->Bool)(t:Nat):find (BK turns δ).2 t=(find δ t).map λp=>if turns p.e then⟨p.t,.t p.t,p.g⟩else p:=by
 unfold find
 induction δ with
 |nil=>rfl
 |cons p r ih=>
  simp only[BK]
  by_cases hp:p.t=t
  ·subst hp
   cases ht:turns p.e<;>simp [ht]
  ·have hb:(p.t == t)=false:=by simpa using hp
   cases ht:turns p.e<;>simp only[aD,bv,aW,iW,hb,ih]
theorem Ce(turns:E->Bool): ∀(g:List (Nat×Bool)),nW δ g=true->nW (BK turns δ).2 g=true
 |[],_=>rfl
 |(s,b)::r,hc=>by
  simp only[nW,aM]at hc ⊢
  refine⟨?_,Ce turns r hc.2⟩
  rw[vw]
  cases hf:find δ s with
  |none=>simp [hf]at hc
  |some p=>
   have:=hc.1
   simp only[hf]at this
   simp only[bn]
   split<;>exact this
theorem abL(turns:E->Bool):(BK turns δ).2.map (·.t)=δ.map (·.t):=by
 induction δ with
 |nil=>rfl
 |cons p r ih=>simp only[BK];split<;>simp [ih]
theorem Ls [DS](turns:E->Bool)(hlay:lay turns δ=some (l,δ1))(R:uR lv N a σ h δ)(Hw:kT G l K KP σ h): ∃σ',uR lv N a σ' h δ1/\K σ' h:=by
 unfold lay at hlay
 split at hlay<;>try (cases hlay;done)
 rename_i hall
 have e0:=bR hlay
 have e1:(BK turns δ).1=l:=by rw[e0]
 have e2:(BK turns δ).2=δ1:=by rw[e0]
 subst e1 e2
 have hT: ∀p∈δ,turns p.e=true-> ∀q∈δ,Eu p.t q.e=false:=λp hp ht q hq=>by
  have:=(bI.1 hall) p hp
  simp only[ht,eQ,dZ,bI]at this
  simpa using this q hq
 have hlvδ: ∀p∈δ,lv p.t=false:=λp hp=>by obtain⟨q,hq'⟩:=xH hp;exact R.nlv _ _ hq'
 have main: ∀(r:List ql),(∀p∈r,p∈δ)->(r.map (·.t)).Nodup-> ∀(σ1:ku) (K:ku->H->Prop),(∀q∈δ,val q.e σ1 h=val q.e σ h)->(∀i,lv i=true->σ1 i=σ i)->kT G (BK turns r).1 K KP σ1 h->
   ∃σ',K σ' h/\(∀q∈δ,val q.e σ' h=val q.e σ h)/\(∀i,lv i=true->σ' i=σ i)/\(∀i,(∀p∈r,p.t≠i)->σ' i=σ1 i)/\(∀p∈r,turns p.e=true->σ' p.t=val p.e σ h):=by
  intro r
  induction r with
  |nil=>intro _ _ σ1 K hq hi H;exact⟨σ1,H,hq,hi,λ_ _=>rfl,λp hp=>by cases hp⟩
  |cons p r ih=>
   intro hr hnd σ1 K hq hi H
   simp only[aS,iX]at hnd
   simp only[BK]at H
   have hpδ:=hr p zP
   have hpr: ∀q∈r,q.t≠p.t:=λq hq he=>hnd.1 (bF.2 ⟨q,hq,he⟩)
   split at H
   ·rename_i ht
    simp only[kT,abJ]at H
    obtain⟨σ',h1,h2,h3,h4,h5⟩:=ih (λq hq=>hr q (by simp [hq])) hnd.2 _ K (λq hqδ=>by rw[MR (hT p hpδ ht q hqδ)];exact hq q hqδ) (λi hl=>by
     have:i≠p.t:=λhe=>by rw[he,hlvδ p hpδ]at hl;cases hl
     simp [jI,this,hi i hl]) H
    refine⟨σ',h1,h2,h3,λi hn=> ?_,λq hq' ht'=> ?_⟩
    ·rw[h4 i (λq hq=>hn q (by simp [hq]))]
     have:i≠p.t:=λhe=>hn p zP he.symm
     simp [jI,this]
    ·rcases aH.1 hq' with rfl|hq'
     ·rw[h4 _ hpr];simp [jI,hq q hpδ]
     ·exact h5 q hq' ht'
   ·rename_i ht
    obtain⟨σ',h1,h2,h3,h4,h5⟩:=ih (λq hq=>hr q (by simp [hq])) hnd.2 σ1 K hq hi H
    refine⟨σ',h1,h2,h3,λi hn=>h4 i (λq hq=>hn q (by simp [hq])),λq hq' ht'=> ?_⟩
    rcases aH.1 hq' with rfl|hq'
    ·exact absurd ht' ht
    ·exact h5 q hq' ht'
 obtain⟨σ',h1,h2,h3,_,h5⟩:=main δ (λ_ h=>h) R.nd σ K (λ_ _=>rfl) (λ_ _=>rfl) Hw
 refine⟨σ',⟨λi hi=>by rw[R.lvs i hi,h3 i hi],R.sz,R.df,λt p hf hgh=> ?_,λt p hf hgh=> ?_,λt p hf=> ?_,λt p hf=> ?_,?_⟩,h1⟩
 ·rw[vw]at hf
  obtain⟨q,hq,hpq⟩:=aO.1 hf
  have hm:=zF hq
  split at hpq
  ·rename_i ht;subst hpq
   rw[R.pend t q hq hgh];simp only[val];rw[h5 q hm.1 ht]
  ·subst hpq;rw[R.pend t q hq hgh,h2 q hm.1]
 ·rw[vw]at hf
  obtain⟨q,hq,hpq⟩:=aO.1 hf
  split at hpq<;>subst hpq<;>exact R.skip t q hq hgh
 ·rw[vw]at hf
  obtain⟨q,hq,hpq⟩:=aO.1 hf
  have:p.g=q.g:=by split at hpq<;>subst hpq<;>rfl
  rw[this];exact Ce turns _ (R.chain t q hq)
 ·rw[vw]at hf
  obtain⟨q,hq,_⟩:=aO.1 hf
  exact R.nlv t q hq
 ·rw[abL];exact R.nd
theorem Cf [DS](R:uR lv N a σ h δ)(hg:yE ops δ o=some g):nW δ g=true/\Region.wanted o (yielded ops a.tmps)=gh a g:=by
 unfold yE at hg
 unfold Region.wanted
 split at hg
 ·rename_i h0;cases hg;rw[h0];exact⟨rfl,rfl⟩
 ·rename_i j want h0
  split at hg<;>try (cases hg;done)
  rename_i s hs
  split at hg<;>cases hg
  rename_i p hf
  refine⟨?_,?_⟩
  ·simp only[nW,hf,decide_true,dI];exact R.chain s p hf
  ·rw[h0]
   show(yielded ops a.tmps j == some want)=(Zh (a.tmps.getD s undef) want && gh a p.g)
   have hy:(yielded ops a.tmps j == some want)=Zh (a.tmps.getD s undef) want:=by
    unfold yielded
    rw[hs]
    simp only[fO,cz]
    cases hv:a.tmps[s]? with
    |none=>simp [undef,Zh]
    |some v=>cases v<;>simp [Zh]
   rw[hy]
   cases hgh:gh a p.g with
   |true=>simp
   |false=>rw[R.skip s p hf hgh];simp [undef,Zh]
theorem Hm{c:Option Chk}(Hw:kT G (ah7 gs c) K KP σ h):(CW gs σ h=true->PE c σ h)/\K σ h:=by
 cases c with
 |none=>exact⟨λ_=>trivial,Hw⟩
 |some c=>exact Hw
theorem zH [DS]{k:Go.Ev.K}{l:List St}(hs:pO P o k)(hc:Py P lv N ops δ later o k=some (l,δ2))(R:uR lv N a σ h δ)(Hw:kT G l K KP σ h):
  ∃v σ',(Region.wanted o (yielded ops a.tmps)=true->CY k a h h/\ ∀w:World,CY k a h w.heap->(execOp a.eval o).run P w= .ok (.value v) w)/\
   (Region.wanted o (yielded ops a.tmps)=false->v=undef)/\uR lv N (a.put o.dst v) σ' h δ2/\K σ' h:=by
 unfold Py at hc
 split at hc<;>try (cases hc;done)
 rename_i d hd
 split at hc
 ·rename_i hl
  split at hc<;>try (cases hc;done)
  rename_i l1 δ1 hgu hlay
  split at hc<;>try (cases hc;done)
  rename_i c e hq
  split at hc<;>try (cases hc;done)
  rename_i hcond
  simp only[aM,aL]at hcond
  obtain⟨δ3,htr,he⟩:=aO.1 hc
  simp only[dB]at he
  obtain⟨rfl,rfl⟩:=he
  rw[bE,pW]at Hw
  obtain⟨σ1,R1,Hw⟩:=Ls _ hlay R Hw
  rw[pW]at Hw
  obtain⟨h1,h2⟩:=Hm Hw
  have hw:Region.wanted o (yielded ops a.tmps)=true:=by unfold Region.wanted;rw[hgu]
  refine⟨val e σ1 h,jI σ1 d (val e σ1 h),λ_=>⟨Hl R1 rfl hq (h1 rfl),λw hw'=>Lr R1 rfl hs hq (h1 rfl) w hw'⟩,λhf=>(by rw[hw]at hf;cases hf),?_,h2⟩
  rw[hd]
  exact xI htr (abK hl hcond.1 hcond.2 R1)
 ·rename_i hl
  split at hc<;>try (cases hc;done)
  rename_i g hg
  split at hc<;>try (cases hc;done)
  rename_i gs c e hgt hq
  split at hc<;>try (cases hc;done)
  rename_i hcond
  simp only[aM,aL,iG]at hcond
  obtain⟨δ3,htr,he⟩:=aO.1 hc
  simp only[dB]at he
  obtain⟨rfl,rfl⟩:=he
  obtain⟨hch,hwant⟩:=Cf R hg
  obtain⟨h1,h2⟩:=Hm Hw
  have hgs:=AZ R g gs hch hgt
  have hl':lv d=false:=by simpa using hl
  cases hgh:gh a g with
  |true=>
   refine⟨val e σ h,σ,λ_=>⟨Hl R hgh hq (h1 (by rw[hgs,hgh])),λw hw'=>Lr R hgh hs hq (h1 (by rw[hgs,hgh])) w hw'⟩,λhf=>(by rw[hwant,hgh]at hf;cases hf),?_,h2⟩
   rw[hd]
   exact xI htr (MS hl' hcond.1 hcond.2 hch R (λ_=>rfl) (λhf=>by rw[hgh]at hf;cases hf))
  |false=>
   refine⟨undef,σ,λhf=>(by rw[hwant,hgh]at hf;cases hf),λ_=>rfl,?_,h2⟩
   rw[hd]
   exact xI htr (MS hl' hcond.1 hcond.2 hch R (λhf=>by rw[hgh]at hf;cases hf) (λ_=>rfl))
theorem abM{turns:E->Bool}(hlay:lay turns δ=some (l,δ1)):(BK turns δ).2=δ1:=by
 unfold lay at hlay
 split at hlay<;>try (cases hlay;done)
 have e0:=bR hlay
 rw[e0]
theorem ae3(hlay:lay Xw δ=some (l,δ1)): ∀p∈δ1,Xw p.e=false:=by
 rw[<-abM hlay]
 clear hlay
 induction δ with
 |nil=>intro p hp;cases hp
 |cons q r ih=>
  intro p hp
  simp only[BK]at hp
  split at hp
  ·rcases aH.1 hp with rfl|hp
   ·rfl
   ·exact ih p hp
  ·rename_i hq
   rcases aH.1 hp with rfl|hp
   ·simpa using hq
   ·exact ih p hp
theorem Ze [DS]{turns:E->Bool}(hlay:lay turns δ=some (l,δ1))(R:uR lv N a σ h δ): ∀t p,find δ1 t=some p->nW δ1 p.g=true:=by
 rw[<-abM hlay]
 intro t p hf
 rw[vw]at hf
 obtain⟨q,hq,hpq⟩:=aO.1 hf
 have:p.g=q.g:=by split at hpq<;>subst hpq<;>rfl
 rw[this];exact Ce turns _ (R.chain t q hq)
theorem PI(hc: ∀t p,find δ t=some p->nW δ p.g=true)(hg:yE ops δ o=some g):nW δ g=true:=by
 unfold yE at hg
 split at hg
 ·cases hg;rfl
 ·split at hg<;>try (cases hg;done)
  split at hg<;>cases hg
  rename_i p hf
  simp only[nW,hf,decide_true,dI];exact hc _ p hf
theorem abN [DS]{h':Go.Ev.H}(hd: ∀p∈δ,Xw p.e=false)(R:uR lv N a σ h δ):uR lv N a σ h' δ:=
 ⟨R.lvs,R.sz,R.df,λt p hf hgh=>by rw[R.pend t p hf hgh];exact ah6 (hd p (zF hf).1) σ h h',R.skip,R.chain,R.nlv,R.nd⟩
theorem ae4 [DS]{d:Nat}{v:Value}(hl:lv d=false)(hm:δ.all (λp=> !Eu d p.e)=true)(R:uR lv N a σ h δ):uR lv N a (jI σ d v) h δ:=
 ⟨λi hi=>by
  have:i≠d:=λhe=>by rw[he,hl]at hi;cases hi
  simp [jI,this,R.lvs i hi],R.sz,R.df,λt p hf hgh=>by
  rw[R.pend t p hf hgh]
  exact(MR (by have:=(bI.1 hm) p (zF hf).1;simpa using this) σ v h).symm,R.skip,R.chain,R.nlv,R.nd⟩
theorem Fu [DS] {f:F} {xs:List Operand} {l:List St} {tau:Tau} {w:World} {next:Act->World->Prop} {Q:Exit->Act->World->Prop}
  (hG:lQ P G) (hs:pO P o (.ef f xs)) (hc:XC P lv N ops δ later tau o f xs=some (l,δ2)) (R:uR lv N a σ h δ) (Hw:kT G l K KP σ h) (hh:w.heap=h)
  (hn: ∀v w' σ',pM w w'->uR lv N (a.put o.dst v) σ' w'.heap δ2->(∀p∈tau,gh a p.2.1=true->w'=w\/rT (a.eval p.1) p.2.2 h w'.heap)->K σ' w'.heap->next (a.put o.dst v) w')
  (hp: ∀c w',pM w w'->KP c w'.heap->Q (.panic c) a w'):
  if Region.wanted o (yielded ops a.tmps)then o.wp P a w next Q else next (a.put o.dst undef) w:=by
 unfold XC at hc
 split at hc<;>try (cases hc;done)
 rename_i l0 δ1 hlay
 split at hc<;>try (cases hc;done)
 rename_i g hg
 split at hc<;>try (cases hc;done)
 rename_i gs es st hgt hes hst
 have hch:nW δ1 g=true:=by
  exact PI (Ze hlay R) hg
 -- all three arms: l = l0 ++ [.eff gs o.dst f es st], and the tie behind it
 have fin:l=l0++[.eff gs o.dst f es st]/\ ∀(σ1:ku) (h':Go.Ev.H) (v:Value),uR lv N a σ1 h' δ1->(gh a g=false->v=undef)->uR lv N (a.put o.dst v) (nD σ1 o.dst v) h' δ2:=by
  split at hc
  ·rename_i hd
   obtain⟨δ3,htr,he⟩:=aO.1 hc
   simp only[dB]at he
   obtain⟨rfl,rfl⟩:=he
   rw[hd]
   exact⟨rfl,λσ1 h' v R1 _=>xI htr R1⟩
  ·rename_i d hd
   split at hc
   ·rename_i hl
    split at hc<;>try (cases hc;done)
    rename_i hcond
    simp only[aM,aL]at hcond
    obtain⟨δ3,htr,he⟩:=aO.1 hc
    simp only[dB]at he
    obtain⟨rfl,rfl⟩:=he
    rw[hd]
    exact⟨rfl,λσ1 h' v R1 _=>xI htr (abK hl hcond.1.2 hcond.2 R1)⟩
   ·rename_i hl
    split at hc<;>try (cases hc;done)
    rename_i hcond
    simp only[aM,aL,iG]at hcond
    obtain⟨δ3,htr,he⟩:=aO.1 hc
    simp only[dB]at he
    obtain⟨rfl,rfl⟩:=he
    rw[hd]
    refine⟨rfl,λσ1 h' v R1 hu=>xI htr ?_⟩
    exact MS (by simpa using hl) hcond.1.1 hcond.1.2 hch (ae4 (by simpa using hl) hcond.2 R1) (λ_=>by simp [val,nD,jI]) hu
 obtain⟨rfl,fin⟩:=fin
 rw[pW]at Hw
 obtain⟨σ1,R1,Hw⟩:=Ls _ hlay R Hw
 obtain⟨hch',hwant⟩:=Cf (ops:=ops) (o:=o) R1 hg
 have hgs:=AZ R1 g gs hch' hgt
 simp only[kT,abJ]at Hw
 subst hh
 split
 ·rename_i hwd
  have hgh:gh a g=true:=by rw[<-hwant];exact hwd
  refine hs G hG a w next Q (λv h'=>mq st σ1 w.heap h'/\K (nD σ1 o.dst v) h') KP ?_ (λv w' hk hK=> ?_) hp
  ·rw[XD R1 hgh xs es hes];exact Hw.1 (by rw[hgs,hgh])
  ·exact hn v w' _ hk (fin σ1 w'.heap v (abN (ae3 hlay) R1) (λhf=>by rw[hgh]at hf;cases hf)) (λp hp hgp=> .inr (PG R1 tau st hst _ hK.1 p hp hgp)) hK.2
 ·rename_i hwd
  have hgh:gh a g=false:=by rw[<-hwant];simpa using hwd
  exact hn undef w _ (pM.refl w) (fin σ1 w.heap undef R1 (λ_=>rfl)) (λ_ _ _=> .inl rfl) (Hw.2 (by rw[hgs,hgh]))
end
end Go.Ev
namespace Go.Ev
section
set_option linter.unusedVariables false
variable {P:Program} {G:lq} {lv:Nat->Bool} {N:Nat} {ops:Array Oper} {δ:List ql} {a:Act} {σ:ku} {h:H} {w:World} {Q:Exit->Act->World->Prop}
def XF(ops:Array Oper)(rest:List Oper)(t:Nat):Bool:=rest.any λo=>(o.looksAt ops).contains t
def PK(P:Program)(lv:Nat->Bool)(N:Nat)(ops:Array Oper):List Oper->List ql->Option (List St)
 |[],_=>some []
 |o::rest,δ=>match tr P o with
  |none=>none
  |some (.ef f xs)=>match XC P lv N ops δ (XF ops rest) [] o f xs with
   |some (l,δ')=>(PK P lv N ops rest δ').map (l++ ·)
   |none=>none
  |some k=>match Py P lv N ops δ (XF ops rest) o k with
   |some (l,δ')=>(PK P lv N ops rest δ').map (l++ ·)
   |none=>none
theorem uR.bare [DS]{δ:List ql}(R:uR lv N a σ h δ):uR lv N a σ h []:=
 ⟨R.lvs,R.sz,R.df,λ_ _ hf=>(by cases hf),λ_ _ hf=>(by cases hf),λ_ _ hf=>(by cases hf),λ_ _ hf=>(by cases hf),zP⟩
def CQ [DS](lv:Nat->Bool)(N:Nat)(w0:World)(Q:Exit->ku->H->Prop):Exit->Act->World->Prop
 | .panic c,a,w=>pM w0 w/\a.defers=DS.d/\Q (.panic c) (λ_=>undef) w.heap
 | .outgrown,_,_=>False
 |x,a,w=>pM w0 w/\ ∃σ,uR lv N a σ w.heap []/\Q x σ w.heap
def pQ(Q:Exit->ku->H->Prop)(c:List PanicEntry)(h:H):Prop:=Q (.panic c) (λ_=>undef) h
theorem uu [DS](hG:lQ P G){w0:World}{Q:Exit->ku->H->Prop}: ∀(rest:List Oper) (δ:List ql) (l:List St) (a:Act) (σ:ku) (w:World),PK P lv N ops rest δ=some l->uR lv N a σ w.heap δ->pM w0 w->
  kT G l (Q .normal) (pQ Q) σ w.heap->wpList P ops (CQ lv N w0 Q) rest a w
 |[],δ,l,a,σ,w,hc,R,hk,Hw=>by
  cases hc
  exact⟨hk,σ,R.bare,Hw⟩
 |o::rest,δ,l,a,σ,w,hc,R,hk,Hw=>by
  simp only[PK]at hc
  have go:(if Region.wanted o (yielded ops a.tmps)then o.wp P a w (wpList P ops (CQ lv N w0 Q) rest) (CQ lv N w0 Q)else wpList P ops (CQ lv N w0 Q) rest (a.put o.dst undef) w):=by
   split at hc<;>try (cases hc;done)
   ·rename_i f xs ht
    split at hc<;>try (cases hc;done)
    rename_i l1 δ1 h1
    obtain⟨l2,h2,rfl⟩:=aO.1 hc
    rw[pW]at Hw
    exact Fu hG (Bd ht) h1 R Hw rfl (λv w' σ' hk' R' _ K'=>uu hG rest δ1 l2 _ σ' w' h2 R' (hk.trans hk') K')
     (λc w' hk' hp=>⟨hk.trans hk',R.df,hp⟩)
   ·rename_i k hne ht
    split at hc<;>try (cases hc;done)
    rename_i l1 δ1 h1
    obtain⟨l2,h2,rfl⟩:=aO.1 hc
    rw[pW]at Hw
    obtain⟨v,σ',hv,hu,R',K'⟩:=zH (Bd ht) h1 R Hw
    split
    ·rename_i hw
     exact kX ((hv hw).2 w (hv hw).1) (uu hG rest δ1 l2 _ σ' w h2 R' hk K')
    ·rename_i hw
     rw[<-hu (by simpa using hw)]
     exact uu hG rest δ1 l2 _ σ' w h2 R' hk K'
  unfold wpList
  split
  ·rename_i hw;rw[ah hw]at go;exact .inl go
  ·rename_i hw;rw[af hw]at go;exact go
/-! ### A region that draws its order -/
def CZ(M:Array Nat)(k i:Nat):Bool:=(M.getD i 0).testBit k
def row(acc:Array Nat)(o:Oper):Nat:=o.after.foldl (λs e=>if Region.binds .any e then s ||| 2 ^ e.on ||| acc.getD e.on 0 else s) 0
theorem XG(acc:Array Nat)(k:Nat): ∀(es:List Edge) (s:Nat),(es.foldl (λs e=>if Region.binds .any e then s ||| 2 ^ e.on ||| acc.getD e.on 0 else s) s).testBit k=true->
  s.testBit k=true\/ ∃e∈es,Region.binds .any e=true/\(e.on=k\/(acc.getD e.on 0).testBit k=true)
 |[],s,h=> .inl h
 |e::r,s,h=>by
  rcases XG acc k r _ h with h1|⟨e',he,hb,hk⟩
  ·simp only[]at h1
   split at h1
   ·rename_i hb
    simp only[Nat.testBit_or,Nat.testBit_two_pow,dW,aL]at h1
    rcases h1 with(h1|h1)|h1
    ·exact .inl h1
    ·exact .inr ⟨e,zP,hb,.inl h1⟩
    ·exact .inr ⟨e,zP,hb,.inr h1⟩
   ·exact .inl h1
  ·exact .inr ⟨e',by simp [he],hb,hk⟩
theorem Fv: ∀(l:List Oper) (acc:Array Nat),∃r:List Nat,(l.foldl (λacc o=>acc.push (row acc o)) acc).toList=acc.toList++r/\r.length=l.length/\
  ∀j o,l[j]? =some o-> ∀k,(r.getD j 0).testBit k=true-> ∃e∈o.after,Region.binds .any e=true/\(e.on=k\/(e.on<acc.size+j/\((acc.toList++r).getD e.on 0).testBit k=true))
 |[],acc=>⟨[],zP,rfl,λj o h=>by simp at h⟩
 |o::l,acc=>by
  obtain⟨r,h1,h2,h3⟩:=Fv l (acc.push (row acc o))
  refine⟨row acc o::r,by simp [h1],by simp [h2],λj o' hj k hk=> ?_⟩
  cases j with
  |zero=>
   simp only[bO,aQ]at hj
   subst hj
   simp only[gX]at hk
   unfold row at hk
   rw[<-gm]at hk
   rcases XG acc k _ 0 hk with h0|⟨e,he,hb,hk'⟩
   ·simp at h0
   ·refine⟨e,by simpa using he,hb,hk'.imp id λh=> ?_⟩
    rcases gp e.on acc.size with hlt|hge
    ·refine⟨zO,?_⟩
     simp only[cz,dN hlt,bZ]at h
     rw[aG,bM (by simpa using hlt)]
     simpa [hlt]using h
    ·simp [cz,hge]at h
  |succ j=>
   simp only[eT]at hj
   simp only[gW]at hk
   obtain⟨e,he,hb,hk'⟩:=h3 j o' hj k hk
   refine⟨e,he,hb,hk'.imp id fun⟨a1,a2⟩=>⟨by simp at a1;omega,by simpa using a2⟩⟩
theorem PL{j:Nat}{o:Oper}(hj:ops[j]? =some o){k:Nat}(hw:CZ (Region.before ops) k j=true):
  ∃e∈o.after,Region.binds .any e=true/\(e.on=k\/(e.on<j/\CZ (Region.before ops) k e.on=true)):=by
 have hb:Region.before ops=ops.toList.foldl (λacc o=>acc.push (row acc o)) #[]:=by
  unfold Region.before;rw[<-gm];rfl
 obtain⟨r,h1,_,h3⟩:=Fv ops.toList #[]
 rw[<-hb]at h1
 have hget: ∀i,(Region.before ops).getD i 0=r.getD i 0:=λi=>by
  rw[cz,aG,<-eu,h1];rfl
 unfold CZ at hw ⊢
 rw[hget]at hw
 obtain⟨e,he,hbd,hk⟩:=h3 j o (by simpa using hj) k hw
 exact⟨e,he,hbd,hk.imp id fun⟨a1,a2⟩=>⟨by simpa using a1,by rw[hget];simpa using a2⟩⟩
def DC(ops:Array Oper)(listed:Array Bool):Prop:=listed.size=ops.size/\ ∀j o,ops[j]? =some o->listed.getD j false=true-> ∀e∈o.after,Region.binds .any e=true->listed.getD e.on false=true
theorem Uk{listed:Array Bool}(hd:DC ops listed){k:Nat}: ∀(j:Nat) (o:Oper),ops[j]? =some o->(∀e∈o.after,Region.binds .any e=true->listed.getD e.on false=true)->CZ (Region.before ops) k j=true->listed.getD k false=true:=by
 intro j
 induction j using Nat.strongRecOn with
 |_ j ih=>
  intro o ho hall hw
  obtain⟨e,he,hb,hk⟩:=PL ho hw
  rcases hk with rfl|⟨hlt,hk⟩
  ·exact hall e he hb
  ·have hj:e.on<ops.size:=by have:=(bi.1 ho).1;omega
   exact ih e.on hlt ops[e.on] (by simp [hj]) (hd.2 e.on _ (by simp [hj]) (hall e he hb)) hk
theorem DC.set{listed:Array Bool}(hd:DC ops listed){i:Nat}(hi:i∈Region.ready .any ops listed):DC ops (listed.setIfInBounds i true):=by
 refine⟨by simp [hd.1],λj o ho hl e he hb=>getD_set_true ?_⟩
 obtain⟨_,oi,hoi,hall⟩:=mem_ready.1 hi
 by_cases hij:j=i
 ·subst hij
  rw[hoi]at ho;cases ho
  exact hall e he hb
 ·rw[getD_set_ne false (gF hij)]at hl
  exact hd.2 j o ho hl e he hb
theorem ae5{listed:Array Bool}(hd:DC ops listed){i j:Nat}(hi:i∈Region.ready .any ops listed)(hj:j∈Region.ready .any ops listed):CZ (Region.before ops) i j=false:=by
 obtain⟨_,oj,hoj,hall⟩:=mem_ready.1 hj
 cases hw:CZ (Region.before ops) i j with
 |false=>rfl
 |true=>
  have h1:=Uk hd j oj hoj hall hw
  obtain⟨h0,oi,hoi,_⟩:=mem_ready.1 hi
  have hlt:=(bi.1 hoi).1
  rw[<-hd.1]at hlt
  simp only[cz,dN hlt,bZ]at h0 h1
  rw[h0]at h1;cases h1
abbrev uw:=List (Nat×(World->Prop))
def xJ(ops:Array Oper)(i:Nat)(Cs:uw):uw:=Cs.filter λc=> !CZ (Region.before ops) c.1 i
def after(act:Nat->Bool)(ops:Array Oper)(Cs:uw)(i:Nat)(w w':World):Prop:=
 if act i then∀c∈xJ ops i Cs,c.2 w' else w'=w
def xn(P:Program)(ops:Array Oper)(Q:Exit->Act->World->Prop)(act:Nat->Bool):Nat->Array Bool->uw->Act->World->Prop
 |0,listed,_,a,w=>Region.ready .any ops listed=[]/\Q .normal a w
 |fuel+1,listed,Cs,a,w=>
  (Region.ready .any ops listed=[]->Q .normal a w)/\
  ∀i∈Region.ready .any ops listed,wpOp P ops Q i (λa' w'=>after act ops Cs i w w'/\xn P ops Q act fuel (listed.setIfInBounds i true) (xJ ops i Cs) a' w') a w
theorem Ho{act:Nat->Bool}: ∀(fuel:Nat) (listed:Array Bool) (Cs:uw) (a:Act) (w:World),xn P ops Q act fuel listed Cs a w->wpAny P .any ops Q fuel listed a w
 |0,_,_,_,_,h=>h
 |fuel+1,_,_,_,_,h=>⟨h.1,λi hi=>wpOp_mono (λa' w' h'=>Ho fuel _ _ a' w' h'.2) (h.2 i hi)⟩
theorem Hq{act:Nat->Bool}{Cs Cs':uw}{i:Nat}{w w':World}(hs:Cs'.Sublist Cs)(h:after act ops Cs i w w'):after act ops Cs' i w w':=by
 unfold after at*
 split
 ·rename_i ha;rw[ah ha]at h;exact λc' hc=>h c' ((hs.filter _).subset hc)
 ·rename_i ha;rw[af ha]at h;exact h
theorem Fw{act:Nat->Bool}: ∀(fuel:Nat) (listed:Array Bool) (Cs Cs':uw) (a:Act) (w:World),Cs'.Sublist Cs->xn P ops Q act fuel listed Cs a w->xn P ops Q act fuel listed Cs' a w
 |0,_,_,_,_,_,_,h=>h
 |fuel+1,_,_,_,_,_,hs,h=>⟨h.1,λi hi=>wpOp_mono (λa' w' h'=>⟨Hq hs h'.1,Fw fuel _ _ _ a' w' (hs.filter _) h'.2⟩) (h.2 i hi)⟩
theorem MU {act:Nat->Bool} {i:Nat} {oi:Oper} {v:Value} {C:World->Prop} (hi:ops[i]? =some oi) (hact:act i=false)
  (hsel: ∀(j:Nat) (o:Oper) cs b,ops[j]? =some o->o.op≠ .select cs b) (hQ: ∀c a w,Q (.panic c) (a.put oi.dst v) w->Q (.panic c) a w):
  ∀(fuel:Nat) (listed:Array Bool) (Cs:uw) (a:Act) (w:World),DC ops listed->
   (∀j oj,ops[j]? =some oj->j≠i->listed.getD j true=false->(∀e∈oj.after,Region.binds .any e=true->e.on≠i)->oi.apart ops oj=true)->
   i∈Region.ready .any ops listed->YieldsIf P ops C oi v a->C w->
   xn P ops Q act fuel (listed.setIfInBounds i true) ((i,C)::Cs) (a.put oi.dst v) w->xn P ops Q act (fuel+1) listed Cs a w:=by
 intro fuel
 have aft: ∀(Cs:uw) (w:World),after act ops Cs i w w:=λCs w=>by unfold after;rw[hact];rfl
 have sub: ∀Cs:uw,(xJ ops i Cs).Sublist ((i,C)::Cs):=λCs=>List.Sublist.trans fT (ja _ _)
 induction fuel with
 |zero=>
  intro listed Cs a w _ _ hr hy hS Hx
  refine⟨λh=>(by rw[h]at hr;cases hr),λj hj=> ?_⟩
  by_cases hji:j=i
  ·subst hji;exact hy.wpOp hi hS ⟨aft Cs w,Hx⟩
  ·have:=ready_mono hj hji
   rw[Hx.1]at this
   cases this
 |succ fuel ih=>
  intro listed Cs a w hdc hfree hr hy hS Hx
  refine⟨λh=>(by rw[h]at hr;cases hr),λj hj=> ?_⟩
  by_cases hji:j=i
  ·subst hji;exact hy.wpOp hi hS ⟨aft Cs w,Fw _ _ _ _ _ _ (sub Cs) Hx⟩
  ·have h1:=Hx.2 j (ready_mono hj hji)
   obtain⟨hjun,oj,hoj,hall⟩:=mem_ready.1 hj
   have hnot: ∀e∈oj.after,Region.binds .any e=true->e.on≠i:=λe he hb heq=>by
    have h1:=hall e he hb
    have h0:=(mem_ready.1 hr).1
    rw[heq]at h1
    rcases gp i listed.size with h'|h'
    ·simp [h']at h0 h1;rw[h0]at h1;cases h1
    ·simp [Array.getElem?_eq_none h']at h1
   have hwait:=ae5 hdc hr hj
   have hkeep: ∀Cs:uw,xJ ops j ((i,C)::Cs)=(i,C)::xJ ops j Cs:=λCs=>by
    unfold xJ;rw[gQ];simp [hwait]
   have h2:=wpOp_putIf hoj (hfree j oj hoj hji hjun hnot) (λcs b=>hsel i oi cs b hi) (λcs b=>hsel j oj cs b hoj) hQ hy h1
   have hfree': ∀k ok,ops[k]? =some ok->k≠i->(listed.setIfInBounds j true).getD k true=false->
     (∀e∈ok.after,Region.binds .any e=true->e.on≠i)->oi.apart ops ok=true:=λk ok hk hki hun hno=>by
    refine hfree k ok hk hki ?_ hno
    by_cases hjk:j=k
    ·subst hjk;exact hjun
    ·rw[getD_set_ne true hjk]at hun;exact hun
   refine wpOp_mono (λa' w' h3=>⟨Hq (ja _ _) h3.2.1,ih (listed.setIfInBounds j true) _ a' w' (hdc.set hj) hfree' (ready_mono hr (gF hji)) h3.1 ?_ ?_⟩) h2
   ·have ha:=h3.2.1
    unfold after at ha
    rw[hkeep]at ha
    split at ha
    ·exact ha (i,C) zP
    ·rw[ha];exact hS
   ·rw[Array.setIfInBounds_comm _ _ hji]
    have:=h3.2.2
    rw[hkeep]at this
    exact this
end
end Go.Ev
namespace Go.Ev
section
set_option linter.unusedVariables false
variable {P:Program} {G:lq} {lv:Nat->Bool} {N:Nat} {ops:Array Oper} {δ:List ql} {a:Act} {σ:ku} {h:H} {w:World}
/-! ### Code -/
inductive S where
 |sts (l:List St)|skip|seq (a b:S)|cond (t:Nat) (a b:S)|block (id:Nat) (s:S)|loop (s:S)|exit (id:Nat)|ret|scope (s:S)|dead|both (a b:S)|join (s:S)
 deriving Inhabited
abbrev tH:=Exit->ku->H->Prop
def BL(K:ku->H->Prop)(Q:tH):tH
 | .normal,σ,h=>K σ h
 |x,σ,h=>Q x σ h
def Ew(id:Nat)(Q:tH):tH
 | .exit i,σ,h=>if i=id then Q .normal σ h else Q (.exit i) σ h
 |x,σ,h=>Q x σ h
def Ul(Q:tH):tH
 | .goto _,_,_=>False
 |x,σ,h=>Q x σ h
def wpS(G:lq):S->tH->ku->H->Prop
 | .sts l,Q,σ,h=>kT G l (Q .normal) (pQ Q) σ h
 | .skip,Q,σ,h=>Q .normal σ h
 | .seq a b,Q,σ,h=>wpS G a (BL (wpS G b Q) Q) σ h
 | .cond t a b,Q,σ,h=>qC (σ t)=true/\(tb (σ t)=true->wpS G a Q σ h)/\(tb (σ t)=false->wpS G b Q σ h)
 | .block id s,Q,σ,h=>wpS G s (Ew id Q) σ h
 | .loop s,Q,σ,h=> ∃(α:Type) (I:α->ku->H->Prop) (μ:α->Nat) (x:α),I x σ h/\ ∀x σ h,I x σ h->wpS G s (BL (λσ' h'=> ∃y,I y σ' h'/\μ y<μ x) Q) σ h
 | .exit id,Q,σ,h=>Q (.exit id) σ h
 | .ret,Q,σ,h=>Q .ret σ h
 | .scope s,Q,σ,h=>wpS G s (Ul Q) σ h
 | .dead,_,_,_=>False
 | .both a b,Q,σ,h=>wpS G a Q σ h/\wpS G b Q σ h
 | .join s,Q,σ,h=> ∃M:ku->H->Prop,wpS G s (BL M Q) σ h/\ ∀σ' h',M σ' h'->Q .normal σ' h'
def oV(l:List St):S->S
 | .sts m=> .sts (l++m)
 |s=>if l.isEmpty then s else .seq (.sts l) s
theorem Um{G:lq}{Q:tH}{σ:ku}{h:H}(l:List St)(s:S):wpS G (oV l s) Q σ h=kT G l (wpS G s Q) (pQ Q) σ h:=by
 unfold oV
 split
 ·simp only[wpS,pW]
 ·split
  ·rename_i hl;rw[List.isEmpty_iff.1 hl];rfl
  ·rfl
def abO:List S->S
 |[]=> .dead
 |[s]=>s
 |s::r=> .both s (abO r)
theorem PM{G:lq}{Q:tH}{σ:ku}{h:H}: ∀(l:List S),wpS G (abO l) Q σ h-> ∀s∈l,wpS G s Q σ h
 |[],_,s,hs=>by cases hs
 |[s],hw,s',hs=>by simp only[aY]at hs;subst hs;exact hw
 |s::s2::r,hw,s',hs=>by
  rcases aH.1 hs with rfl|hs
  ·exact hw.1
  ·exact PM (s2::r) hw.2 s' hs
def ae6:List (Option S)->Option (List S)
 |[]=>some []
 |some s::r=>(ae6 r).map (s:: ·)
 |none::_=>none
theorem PN: ∀(l:List (Option S)) (r:List S),ae6 l=some r-> ∀x∈l,∃s∈r,x=some s
 |[],_,_,x,hx=>by cases hx
 |none::_,_,h,_,_=>by cases h
 |some s::l,r,h,x,hx=>by
  simp only[ae6]at h
  obtain⟨r',h1,rfl⟩:=aO.1 h
  rcases aH.1 hx with rfl|hx
  ·exact⟨s,zP,rfl⟩
  ·obtain⟨s',h2,h3⟩:=PN l r' h1 x hx
   exact⟨s',by simp [h2],h3⟩
abbrev PO:=Nat×(Operand×List (Nat×Bool)×Option Nat)
def MV(P:Program)(ops:Array Oper)(i:Nat):Bool:=match(ops[i]?).bind (tr P)with
 |some (.ef _ _)=>false
 |some _=>true
 |none=>false
def PP(t:Nat)(x:Operand)(g:List (Nat×Bool)):Bool:=(match x with| .tmp u=>u == t|_=>false) || g.any λp=>p.1 == t
def Un(ops:Array Oper)(listed:Array Bool)(τ:List PO)(t:Nat):Bool:=
 (List.range ops.size).any (λj=> !listed.getD j true && match ops[j]? with|some o=>(o.looksAt ops).contains t|none=>false) || τ.any λp=>PP t p.2.1 p.2.2.1
def Uo(lv:Nat->Bool)(δ:List ql)(ops:Array Oper)(o:Oper):Option (List (Nat×Bool)):=match o.dst with
 |some d=>if lv d then(match o.guard with|none=>some []|_=>none)else yE ops δ o
 |none=>none
def ae7(d:Option Nat)(τ:List PO):Bool:=match d with|some d=>τ.all (λp=> !PP d p.2.1 p.2.2.1)|none=>true
def Hr(P:Program)(lv:Nat->Bool)(N:Nat)(ops:Array Oper):Nat->Array Bool->List ql->List PO->Option S
 |0,listed,_,_=>if(Region.ready .any ops listed).isEmpty then some (.sts [])else none
 |fuel+1,listed,δ,τ=>
  match Region.ready .any ops listed with
  |[]=>some (.sts [])
  |i0::rs=>match(i0::rs).find? (MV P ops)with
   |some i=>match ops[i]? with
    |none=>none
    |some o=>match tr P o,o.dst with
     |some k,some d=>if Region.free .any ops listed i && τ.all (λp=> !PP d p.2.1 p.2.2.1)then
       match XE k,Uo lv δ ops o with
       |some (x,n),some g=>if PP d x g then none else
        match Py P lv N ops δ (Un ops (listed.setIfInBounds i true) ((i,x,g,n)::τ)) o k with
        |some (l,δ')=>(Hr P lv N ops fuel (listed.setIfInBounds i true) δ' ((i,x,g,n)::τ)).map (oV l)
        |none=>none
       |none,_=>match Py P lv N ops δ (Un ops (listed.setIfInBounds i true) τ) o k with
        |some (l,δ')=>(Hr P lv N ops fuel (listed.setIfInBounds i true) δ' τ).map (oV l)
        |none=>none
       |_,_=>none
      else none
     |_,_=>none
   |none=>(ae6 ((i0::rs).map λi=>match ops[i]? with
    |some o=>match tr P o with
     |some (.ef f xs)=>
      if ae7 o.dst (τ.filter λp=> !CZ (Region.before ops) p.1 i)then
       match XC P lv N ops δ (Un ops (listed.setIfInBounds i true) (τ.filter λp=> !CZ (Region.before ops) p.1 i)) ((τ.filter λp=> !CZ (Region.before ops) p.1 i).map (·.2)) o f xs with
       |some (l,δ')=>(Hr P lv N ops fuel (listed.setIfInBounds i true) δ' (τ.filter λp=> !CZ (Region.before ops) p.1 i)).map (oV l)
       |none=>none
      else none
     |_=>none
    |none=>none)).map abO
def TR(a:Act)(w:World):List PO->uw->Prop
 |[],[]=>True
 |(k,x,g,n)::τ,(k',C)::Cs=>k'=k/\(∃h0,C=(λw'=>gh a g=true->rT (a.eval x) n h0 w'.heap)/\(gh a g=true->rT (a.eval x) n h0 w.heap))/\TR a w τ Cs
 |_,_=>False
theorem ae8{g:List (Nat×Bool)}{d:Nat}{v:Value}(hg:(g.any λp=>p.1 == d)=false):gh (a.put (some d) v) g=gh a g:=
 Uj λq hq he=>by
  have:=(List.any_eq_false.1 hg) q hq
  simp [he]at this
theorem Lt{x:Operand}{g:List (Nat×Bool)}{d:Option Nat}{v:Value}(hu: ∀d',d=some d'->PP d' x g=false):(a.put d v).eval x=a.eval x/\gh (a.put d v) g=gh a g:=by
 cases d with
 |none=>exact⟨rfl,rfl⟩
 |some d=>
  have:=hu d rfl
  unfold PP at this
  simp only[dx]at this
  refine⟨?_,ae8 this.2⟩
  cases x with
  |tmp t=>
   have hne:t≠d:=by simpa using this.1
   exact oJ hne
  |_=>rfl
theorem MW{d:Option Nat}{v:Value}: ∀(τ:List PO) (Cs:uw),(∀d',d=some d'->τ.all (λp=> !PP d' p.2.1 p.2.2.1)=true)->TR a w τ Cs->TR (a.put d v) w τ Cs
 |[],[],_,h=>h
 |[],_::_,_,h=>h.elim
 |_::_,[],_,h=>h.elim
 |(k,x,g,n)::τ,(k',C)::Cs,hu,h=>by
  obtain⟨h1,⟨h0,h2,h3⟩,h4⟩:=h
  have hu': ∀d',d=some d'->PP d' x g=false/\τ.all (λp=> !PP d' p.2.1 p.2.2.1)=true:=λd' hd=>by
   have:=hu d' hd
   simp only[il,aM]at this
   exact⟨by simpa using this.1,this.2⟩
  obtain⟨e1,e2⟩:=Lt (a:=a) (x:=x) (g:=g) (d:=d) (v:=v) (λd' hd=>(hu' d' hd).1)
  refine⟨h1,⟨h0,?_,?_⟩,MW τ Cs (λd' hd=>(hu' d' hd).2) h4⟩
  ·rw[e1,e2];exact h2
  ·rw[e1,e2];exact h3
theorem PQ{p:Value}{n:Option Nat}{h0 h1 h2:H}(x:rT p n h0 h1)(y:rT p n h1 h2):rT p n h0 h2:=by
 unfold rT at*
 split
 ·cases n<;>simp_all
 ·trivial
theorem Lu(i:Nat): ∀(τ:List PO) (Cs:uw),TR a w τ Cs->TR a w (τ.filter λp=> !CZ (Region.before ops) p.1 i) (xJ ops i Cs)
 |[],[],h=>h
 |[],_::_,h=>h.elim
 |_::_,[],h=>h.elim
 |(k,x,g,n)::τ,(k',C)::Cs,h=>by
  obtain⟨rfl,h2,h3⟩:=h
  have ih:=Lu i τ Cs h3
  unfold xJ at ih ⊢
  simp only[gQ]
  cases hw:CZ (Region.before ops) k' i with
  |true=>simpa using ih
  |false=>exact⟨rfl,h2,ih⟩
theorem PS{w':World}: ∀(τ:List PO) (Cs:uw),TR a w τ Cs->(∀p∈τ,gh a p.2.2.1=true->w'=w\/rT (a.eval p.2.1) p.2.2.2 w.heap w'.heap)->TR a w' τ Cs/\ ∀c∈Cs,c.2 w'
 |[],[],h,_=>⟨h,λc hc=>by cases hc⟩
 |[],_::_,h,_=>h.elim
 |_::_,[],h,_=>h.elim
 |(k,x,g,n)::τ,(k',C)::Cs,h,hs=>by
  obtain⟨h1,⟨h0,h2,h3⟩,h4⟩:=h
  obtain⟨i1,i2⟩:=PS τ Cs h4 (λp hp=>hs p (by simp [hp]))
  have key:gh a g=true->rT (a.eval x) n h0 w'.heap:=λhg=>by
   rcases hs (k,x,g,n) zP hg with rfl|hsm
   ·exact h3 hg
   ·exact PQ (h3 hg) hsm
  refine⟨⟨h1,⟨h0,h2,key⟩,i1⟩,λc hc=> ?_⟩
  rcases aH.1 hc with rfl|hc
  ·simp only;rw[h2];exact key
  ·exact i2 c hc
theorem Fx{Q:Exit->Act->World->Prop}{act:Nat->Bool}{k:Nat}: ∀(fuel:Nat) (listed:Array Bool) (Cs:uw) (a:Act) (w:World),xn P ops Q act fuel listed Cs a w->xn P ops Q act fuel listed ((k,λ_=>True)::Cs) a w
 |0,_,_,_,_,h=>h
 |fuel+1,listed,Cs,a,w,h=>by
  refine⟨h.1,λi hi=>wpOp_mono (λa' w' h'=> ?_) (h.2 i hi)⟩
  obtain⟨h1,h2⟩:=h'
  have hk:xJ ops i ((k,λ_=>True)::Cs)=if CZ (Region.before ops) k i then xJ ops i Cs else(k,λ_=>True)::xJ ops i Cs:=by
   unfold xJ;rw[gQ];cases CZ (Region.before ops) k i<;>simp
  refine⟨?_,?_⟩
  ·unfold after at h1 ⊢
   rw[hk]
   split
   ·rename_i ha
    rw[ah ha]at h1
    split
    ·exact h1
    ·intro c hc
     rcases aH.1 hc with rfl|hc
     ·trivial
     ·exact h1 c hc
   ·rename_i ha;rw[af ha]at h1;exact h1
  ·rw[hk]
   split
   ·exact h2
   ·exact Fx fuel _ _ _ _ h2
theorem abP [DS]{o:Oper}{g:List (Nat×Bool)}(R:uR lv N a σ h δ)(ht:Uo lv δ ops o=some g):Region.wanted o (yielded ops a.tmps)=gh a g:=by
 unfold Uo at ht
 split at ht<;>try (cases ht;done)
 split at ht
 ·split at ht<;>cases ht
  rename_i h0
  unfold Region.wanted;rw[h0];rfl
 ·exact(Cf R ht).2
theorem ajQ [DS]{w0:World}{Q:Exit->ku->H->Prop}{d:Option Nat}{v:Value}: ∀c a w,CQ lv N w0 Q (.panic c) (Act.put a d v) w->CQ lv N w0 Q (.panic c) a w:=by
 intro c a w ⟨h1,h2,h3⟩
 refine⟨h1,?_,h3⟩
 cases d<;>simpa [Act.put]using h2
theorem PT [DS](hG:lQ P G){w0:World}{Q:Exit->ku->H->Prop}(hsel:Region.noSelect ops=true): ∀(fuel:Nat) (listed:Array Bool) (δ:List ql) (τ:List PO) (l:S) (a:Act) (σ:ku) (w:World) (Cs:uw),
  Hr P lv N ops fuel listed δ τ=some l->DC ops listed->uR lv N a σ w.heap δ->TR a w τ Cs->pM w0 w->wpS G l Q σ w.heap->
  xn P ops (CQ lv N w0 Q) (λi=> !MV P ops i) fuel listed Cs a w:=by
 intro fuel
 induction fuel with
 |zero=>
  intro listed δ τ l a σ w Cs hc _ R _ hk Hw
  simp only[Hr]at hc
  split at hc<;>cases hc
  rename_i hr
  exact⟨by simpa using hr,hk,σ,R.bare,Hw⟩
 |succ fuel ih=>
  intro listed δ τ l a σ w Cs hc hdc R ht hk Hw
  simp only[Hr]at hc
  split at hc
  ·rename_i hr
   cases hc
   exact⟨λ_=>⟨hk,σ,R.bare,Hw⟩,by rw[hr];intro i hi;cases hi⟩
  ·rename_i i0 rs hr
   split at hc
   ·-- a quiet one is taken first
    rename_i i hfi
    have hqi:MV P ops i=true:=List.find?_some hfi
    have hir:i∈Region.ready .any ops listed:=by rw[hr];exact iF hfi
    split at hc<;>try (cases hc;done)
    rename_i o ho
    split at hc<;>try (cases hc;done)
    rename_i k d htr hd
    split at hc<;>try (cases hc;done)
    rename_i hcond
    simp only[aM]at hcond
    have first:=fun(C:World->Prop) (v:Value) (hy:YieldsIf P ops C o v a) (hC:C w)=>MU (Q:=CQ lv N w0 Q) (act:=λi=> !MV P ops i) (C:=C) ho (by simp [hqi]) (Region.noSelect_spec hsel) ajQ fuel listed Cs a w hdc
     (Region.free_spec ho hcond.1) hir hy hC
    have hdc':=hdc.set hir
    split at hc
    ·rename_i x n g hkl htg
     split at hc<;>try (cases hc;done)
     rename_i hux
     split at hc<;>try (cases hc;done)
     rename_i l1 δ1 h1
     obtain⟨l2,h2,rfl⟩:=aO.1 hc
     rw[Um]at Hw
     obtain⟨v,σ',hv,hu,R',K'⟩:=zH (Bd htr) h1 R Hw
     have hwant:=abP (ops:=ops) (o:=o) R htg
     have hkc: ∀h',CY k a w.heap h'=rT (a.eval x) n w.heap h':=λh'=>by unfold CY;rw[hkl]
     refine first (λw'=>gh a g=true->rT (a.eval x) n w.heap w'.heap) v ?_ ?_ ?_
     ·cases hw:Region.wanted o (yielded ops a.tmps)with
      |true=>exact .inl ⟨hw,λw' hC=>(hv hw).2 w' (by rw[hkc];exact hC (by rw[<-hwant];exact hw))⟩
      |false=>exact .inr ⟨hw,hu hw⟩
     ·intro hg;rw[<-hkc];exact(hv (by rw[hwant];exact hg)).1
     ·obtain⟨e1,e2⟩:=Lt (a:=a) (x:=x) (g:=g) (d:=o.dst) (v:=v) (λd' hd'=>by rw[hd]at hd';cases hd';simpa using hux)
      refine ih _ δ1 _ l2 _ σ' w _ h2 hdc' R' ⟨rfl,⟨w.heap,?_,?_⟩,MW τ Cs (λd' hd'=>by rw[hd]at hd';cases hd';exact hcond.2) ht⟩ hk K'
      ·rw[e1,e2]
      ·rw[e1,e2];intro hg;rw[<-hkc];exact(hv (by rw[hwant];exact hg)).1
    ·rename_i hkl
     split at hc<;>try (cases hc;done)
     rename_i l1 δ1 h1
     obtain⟨l2,h2,rfl⟩:=aO.1 hc
     rw[Um]at Hw
     obtain⟨v,σ',hv,hu,R',K'⟩:=zH (Bd htr) h1 R Hw
     refine first (λ_=>True) v ?_ trivial ?_
     ·cases hw:Region.wanted o (yielded ops a.tmps)with
      |true=>exact .inl ⟨hw,λw' _=>(hv hw).2 w' (by unfold CY;rw[hkl];trivial)⟩
      |false=>exact .inr ⟨hw,hu hw⟩
     ·exact Fx _ _ _ _ _ (ih _ δ1 _ l2 _ σ' w _ h2 hdc' R' (MW τ Cs (λd' hd'=>by rw[hd]at hd';cases hd';exact hcond.2) ht) hk K')
    ·cases hc
   ·-- those that act
    rename_i hnone
    obtain⟨ls,hls,rfl⟩:=aO.1 hc
    refine⟨λh0=>(by rw[hr]at h0;cases h0),λi hi=> ?_⟩
    have hir:=hi
    rw[hr]at hi
    obtain⟨s0,hs0,hc⟩:=PN _ _ hls _ (bF.2 ⟨i,hi,rfl⟩)
    replace Hw:=PM _ Hw s0 hs0
    split at hc<;>try (cases hc;done)
    rename_i o ho
    split at hc<;>try (cases hc;done)
    rename_i f xs htr
    split at hc<;>try (cases hc;done)
    rename_i hcond
    split at hc<;>try (cases hc;done)
    rename_i l1 δ1 h1
    obtain⟨l2,h2,rfl⟩:=aO.1 hc
    rw[Um]at Hw
    have hact:MV P ops i=false:=by unfold MV;rw[ho];simp [htr]
    have tf:=Lu (ops:=ops) i τ Cs ht
    have main:=Fu (Q:=CQ lv N w0 Q) (next:=λa' w'=>after (λi=> !MV P ops i) ops Cs i w w'/\xn P ops (CQ lv N w0 Q) (λi=> !MV P ops i) fuel (listed.setIfInBounds i true) (xJ ops i Cs) a' w')
     hG (Bd htr) h1 R Hw rfl (λv w' σ' hk' R' hsm K'=>by
      obtain⟨t1,t2⟩:=PS (w':=w') _ _ tf (λp hp hg=>hsm p.2 (bF.2 ⟨p,hp,rfl⟩) hg)
      refine⟨?_,ih _ δ1 _ l2 _ σ' w' _ h2 (hdc.set hir) R' (MW _ _ (λd' hd'=>by rw[hd']at hcond;exact hcond) t1) (hk.trans hk') K'⟩
      unfold after
      rw[ah (by simp [hact])]
      exact t2)
     (λc w' hk' hp=>⟨hk.trans hk',R.df,hp⟩)
    unfold wpOp
    rw[ho]
    simp only
    split
    ·rename_i hw;rw[ah hw]at main;exact .inl main
    ·rename_i hw;rw[af hw]at main;exact main
end
end Go.Ev
namespace Go.Ev
/-! ### Code, put together -/
def ajR:S->S
 | .sts l=> .sts l
 |s=> .join s
def oZ(P:Program)(lv:Nat->Bool)(N:Nat):Code->Option S
 | .skip=>some .skip
 | .label _=>some .skip
 | .region _ ops draw=>if draw then(if Region.noSelect ops then(Hr P lv N ops ops.size (Array.replicate ops.size false) [] []).map ajR else none)
   else(PK P lv N ops ops.toList []).map .sts
 | .seq a b=>match oZ P lv N a,oZ P lv N b with
  |some x,some y=>some (.seq x y)
  |_,_=>none
 | .cond (.tmp t) a b=>if lv t then match oZ P lv N a,oZ P lv N b with
   |some x,some y=>some (.cond t x y)
   |_,_=>none
  else none
 | .cond (.const (.bool true)) a _=>oZ P lv N a
 | .cond (.const (.bool false)) _ b=>oZ P lv N b
 | .block id c=>(oZ P lv N c).map (.block id)
 | .loop c=>(oZ P lv N c).map .loop
 | .exit id=>some (.exit id)
 | .ret=>some .ret
 | .scope c=>(oZ P lv N c).map .scope
 |_=>some .dead
section
set_option linter.unusedVariables false
variable {P:Program} {G:lq} {lv:Nat->Bool} {N:Nat} {ops:Array Oper} {a:Act} {σ:ku} {h:H} {w w0:World} {Q:tH}
theorem Zf {c:Code} {Q:Exit->Act->World->Prop} (I:Nat->Act->World->Prop) (n:Nat) (h0:I n a w)
  (round: ∀n a w,I n a w->c.wp P (Exit.then (λa' w'=> ∃m,m<n/\I m a' w') Q) a w):(Code.loop c).wp P Q a w:=by
 intro b k cs
 have key: ∀n a w,I n a w-> ∃e a' w',Q e a' w'/\Arrives P (lone (b.at a (.code c:: .inLoop c::k)) cs w) b k cs e a' w':=by
  intro n
  induction n using Nat.strongRecOn with
  |_ n ih=>
   intro a w hI
   obtain⟨e,a₁,w₁,hq,harr⟩:=round n a w hI b (.inLoop c::k) cs
   cases e with
   |normal=>
    obtain⟨m,hlt,hI₁⟩:=hq
    obtain⟨e₂,a₂,w₂,hq₂,harr₂⟩:=ih m hlt a₁ w₁ hI₁
    exact⟨e₂,a₂,w₂,hq₂,.of_steps (Steps.trans harr (.one step_inLoop)) harr₂⟩
   |exit id=>exact⟨_,a₁,w₁,hq,.pass (x:= .inLoop c) rfl (λ_ _=> .inl zP) harr⟩
   |goto l=>exact⟨_,a₁,w₁,hq,.pass (x:= .inLoop c) rfl (λ_ _=> .inl zP) harr⟩
   |ret=>exact⟨_,a₁,w₁,hq,.pass (x:= .inLoop c) rfl (λ_ _=> .inl zP) harr⟩
   |panic ch=>exact⟨_,a₁,w₁,hq,.pass (x:= .inLoop c) rfl (λ_ _=> .inl zP) harr⟩
   |outgrown=>exact⟨_,a₁,w₁,hq,.pass (x:= .inLoop c) rfl (λ_ _=> .inl zP) harr⟩
 obtain⟨e,a',w',hq,harr⟩:=key n a w h0
 exact⟨e,a',w',hq,.of_steps (.one step_loop) harr⟩
theorem vW [DS](hG:lQ P G)(hmix:P.follows .mixedOrders=true): ∀(c:Code) (s:S) (Q:tH) (a:Act) (σ:ku) (w w0:World),oZ P lv N c=some s->uR lv N a σ w.heap []->pM w0 w->wpS G s Q σ w.heap->c.wp P (CQ lv N w0 Q) a w:=by
 intro c
 induction c with
 |skip=>intro s Q a σ w w0 hc R hk Hw;cases hc;exact wp_skip ⟨hk,σ,R,Hw⟩
 |label l=>intro s Q a σ w w0 hc R hk Hw;cases hc;exact wp_label ⟨hk,σ,R,Hw⟩
 |exit id=>intro s Q a σ w w0 hc R hk Hw;cases hc;exact wp_exit ⟨hk,σ,R,Hw⟩
 |ret=>intro s Q a σ w w0 hc R hk Hw;cases hc;exact wp_ret ⟨hk,σ,R,Hw⟩
 |region id ops draw=>
  intro s Q a σ w w0 hc R hk Hw
  simp only[oZ]at hc
  cases draw with
  |false=>
   simp only[aD,aW]at hc
   obtain⟨l,hl,rfl⟩:=aO.1 hc
   exact wp_region_list (uu hG _ _ l a σ w hl R hk Hw)
  |true=>
   simp only[bv]at hc
   split at hc<;>try (cases hc;done)
   rename_i hsel
   have hk':pM w0 {w with drawn:=w.drawn+1}:=⟨hk.os,hk.tape,hk.output⟩
   obtain⟨s0,hc0,rfl⟩:=aO.1 hc
   have main: ∀Q':tH,wpS G s0 Q' σ w.heap->(Code.region id ops true).wp P (CQ lv N w0 Q') a w:=λQ' Hw=>by
    refine wp_region_any hmix (Ho _ _ [] _ _ (PT hG hsel _ _ [] [] s0 a σ {w with drawn:=w.drawn+1} [] hc0 ?_ R trivial hk' Hw))
    refine⟨zP,λj o hj hl=> ?_⟩
    have:=(bi.1 hj).1
    simp [cz,this]at hl
   have join:wpS G (.join s0) Q σ w.heap->(Code.region id ops true).wp P (CQ lv N w0 Q) a w:=fun⟨M,h1,h2⟩=>by
    refine wp_mono (main _ h1) λe a' w' hq=> ?_
    cases e with
    |normal=>obtain⟨k1,σ',R',hM⟩:=hq;exact⟨k1,σ',R',h2 _ _ hM⟩
    |_=>exact hq
   cases s0<;>first|exact main Q Hw|exact join Hw
 |seq x y ihx ihy=>
  intro s Q a σ w w0 hc R hk Hw
  simp only[oZ]at hc
  split at hc<;>cases hc
  rename_i sx sy h1 h2
  refine wp_seq (wp_mono (ihx sx _ a σ w w0 h1 R hk Hw) λe a' w' hq=> ?_)
  cases e with
  |normal=>obtain⟨hk',σ',R',hq'⟩:=hq;exact ihy sy Q a' σ' w' w0 h2 R' hk' hq'
  |_=>exact hq
 |cond c x y ihx ihy=>
  intro s Q a σ w w0 hc R hk Hw
  cases c with
  |const v=>
   cases v<;>try (cases hc;exact Hw.elim)
   rename_i b
   cases b
   ·exact wp_cond_split (t:=false) rfl (λe=>by cases e) (λ_=>ihy s Q a σ w w0 hc R hk Hw)
   ·exact wp_cond_split (t:=true) rfl (λ_=>ihx s Q a σ w w0 hc R hk Hw) (λe=>by cases e)
  |tmp t=> ?_
  |_=>cases hc;exact Hw.elim
  simp only[oZ]at hc
  split at hc<;>try (cases hc;done)
  rename_i hl
  split at hc<;>cases hc
  rename_i sx sy h1 h2
  obtain⟨hb,ht,hf⟩:=Hw
  have hv:a.eval (.tmp t)=σ t:=R.lvs t hl
  cases hσ:σ t<;>simp [hσ,qC]at hb
  rename_i b
  refine wp_cond_split (t:=b) (by rw[hv,hσ]) (λe=>ihx sx Q a σ w w0 h1 R hk (ht (by rw[hσ];exact e))) (λe=>ihy sy Q a σ w w0 h2 R hk (hf (by rw[hσ];exact e)))
 |block id c ih=>
  intro s Q a σ w w0 hc R hk Hw
  obtain⟨s',hs,rfl⟩:=aO.1 hc
  refine wp_block (wp_mono (ih s' _ a σ w w0 hs R hk Hw) λe a' w' hq=> ?_)
  cases e with
  |exit i=>
   obtain⟨hk',σ',R',hq'⟩:=hq
   simp only[Exit.inBlock]
   simp only[Ew]at hq'
   split
   ·rename_i hi;rw[ah hi]at hq';exact⟨hk',σ',R',hq'⟩
   ·rename_i hi;rw[af hi]at hq';exact⟨hk',σ',R',hq'⟩
  |_=>exact hq
 |loop c ih=>
  intro s Q a σ w w0 hc R hk Hw
  obtain⟨s',hs,rfl⟩:=aO.1 hc
  obtain⟨α,I,μ,x,h0,round⟩:=Hw
  refine Zf (λn a w=>pM w0 w/\ ∃σ x,uR lv N a σ w.heap []/\μ x=n/\I x σ w.heap) (μ x) ⟨hk,σ,x,R,rfl,h0⟩ λn a w ⟨hk,σ,x,R,hx,hI⟩=> ?_
  subst hx
  refine wp_mono (ih s' _ a σ w w0 hs R hk (round x σ w.heap hI)) λe a' w' hq=> ?_
  cases e with
  |normal=>obtain⟨hk',σ',R',y,hI',hlt⟩:=hq;exact⟨μ y,hlt,hk',σ',y,R',rfl,hI'⟩
  |_=>exact hq
 |scope c ih=>
  intro s Q a σ w w0 hc R hk Hw
  obtain⟨s',hs,rfl⟩:=aO.1 hc
  refine wp_scope_straight (wp_mono (ih s' _ a σ w w0 hs R hk Hw) λe a' w' hq=> ?_)
  cases e with
  |goto l=>obtain⟨_,_,_,hf⟩:=hq;exact hf
  |_=>exact hq
 |_=>intro s Q a σ w w0 hc R hk Hw;cases hc;exact Hw.elim
end
end Go.Ev
namespace Go.Ev
section
set_option linter.unusedVariables false
variable {P:Program} {G:lq} {lv:Nat->Bool} {N:Nat} {σ:ku} {h:H} {Q:tH}
def uy:Nat->List Value->ku->ku
 |_,[],σ=>σ
 |k,a::r,σ=>uy (k+1) r (jI σ k a)
def BM:ku:=λ_=>undef
theorem Lv: ∀(k:Nat) (l:List Value) (σ:ku) (i:Nat),uy k l σ i=if i<k then σ i else if i<k+l.length then l.getD (i - k) undef else σ i
 |k,[],σ,i=>by simp [uy];intro h1 h2;omega
 |k,a::r,σ,i=>by
  simp only[uy]
  rw[Lv]
  by_cases h1:i<k
  ·simp [h1,show i<k+1 by omega,jI,show i≠k by omega]
  ·by_cases h2:i=k
   ·subst h2;simp [jI]
   ·have h3: ¬i<k+1:=zO
    rw[af h3,af h1]
    have e:i - k=(i - (k+1))+1:=zO
    simp only[au]
    by_cases h4:i<k+1+r.length
    ·rw[ah h4,ah zO,e];rfl
    ·rw[af h4,af zO];simp [jI,h2]
/-! ### Results -/
abbrev CL:=List (Option Chk×E)
def Da(P:Program)(lv:Nat->Bool):List ResultVar->Option CL
 |[]=>some []
 | .tmp t::r=>if lv t then(Da P lv r).map ((none,.t t):: ·)else none
 | .cell a t::r=>if lv a then match Cj P t,sH P t,Da P lv r with
   |some true,some n,some l=>some ((some (.c1 (.ldn n) (.t a)),.o1 (.ldn n) (.t a))::l)
   |some false,some _,some l=>some ((some (.c1 .ld1 (.t a)),.o1 .ld1 (.t a))::l)
   |_,_,_=>none
  else none
def one:List Value->Value
 |[v]=>v
 |l=> .tuple l.toArray
def xK:CL->ku->H->Prop
 |[],_,_=>True
 |(none,_)::r,σ,h=>xK r σ h
 |(some c,_)::r,σ,h=>yD c σ h/\xK r σ h
def uK(es:CL)(R:Ending->H->Prop):tH
 | .normal,σ,h=>xK es σ h/\R (.returned (one (es.map λe=>val e.2 σ h))) h
 | .ret,σ,h=>xK es σ h/\R (.returned (one (es.map λe=>val e.2 σ h))) h
 | .panic c,_,h=>R (.panicked c) h
 |_,_,_=>False
def Ht(a:Act):ResultVar->Sem Value
 | .tmp t=>pure (a.tmps.getD t undef)
 | .cell b t=>do loadVar t (<-asAddr (a.tmps.getD b undef))
theorem GH [DS]{a:Act}{w:World}(R:uR lv N a σ w.heap []): ∀(rs:List ResultVar) (es:CL),Da P lv rs=some es->xK es σ w.heap->
  (rs.mapM (Ht a)).run P w= .ok (es.map λe=>val e.2 σ w.heap) w
 |[],es,h,_=>by cases h;rfl
 | .tmp t::r,es,h,hok=>by
  simp only[Da]at h
  split at h<;>try (cases h;done)
  rename_i hl
  obtain⟨l,hr,rfl⟩:=aO.1 h
  have ih:=GH R r l hr hok
  simp only[fA,Ht,Sem.run_bind,Sem.run_pure,Result.andThen_ok,ih,aS,val,R.lvs t hl]
 | .cell b t::r,es,h,hok=>by
  simp only[Da]at h
  split at h<;>try (cases h;done)
  rename_i hl
  split at h<;>cases h
  ·rename_i n l h1 h2 h3
   have ih:=GH R r l h3 hok.2
   have hs:=hok.1
   simp only[yD,val,s1]at hs
   split at hs<;>try (exact hs.elim)
   rename_i b' o' hx
   have hld:=run_loadCells (P:=P) (w:=w) ⟨b',o',none⟩ n (λj=>hv w.heap b' (o'+j)) (λj hj=>by rw[Zl,pY];exact wT zO)
   simp only[fA,Ht,Sem.run_bind,Sem.run_pure,Result.andThen_ok,ih,aS,val,R.lvs b hl,hx,asAddr,loadVar,agg h1,PX h2,bv,hld,v1]
   rfl
  ·rename_i n l h1 h2 h3
   have ih:=GH R r l h3 hok.2
   have hs:=hok.1
   simp only[yD,val,s1]at hs
   split at hs<;>try (exact hs.elim)
   rename_i b' o' hx
   have:=wT hs
   simp [fA,Ht,ih,val,R.lvs b hl,hx,asAddr,loadVar,agg h1,v1,pY,this]
theorem zI [DS]{fn:Func}{a:Act}{w:World}{es:CL}(R:uR lv N a σ w.heap [])(hr:Da P lv fn.results.toList=some es)(hok:xK es σ w.heap):
  (results fn a.tmps).run P w= .ok (one (es.map λe=>val e.2 σ w.heap)) w:=by
 have h1:=GH R _ _ hr hok
 have e1:results fn a.tmps=(do let vs<-fn.results.toList.toArray.mapM (Ht a);pure (if h:vs.size=1 then vs[0]else .tuple vs)):=rfl
 rw[e1]
 simp only[List.mapM_toArray,Sem.run_bind,Sem.run_map,h1,Result.andThen_ok,Sem.run_pure]
 congr 1
 generalize (es.map λe=>val e.2 σ w.heap)=l
 cases l with
 |nil=>rfl
 |cons x r=>cases r<;>simp [one]
end
section
set_option linter.unusedVariables false
variable {P:Program} {G:lq} {lv:Nat->Bool} {N:Nat} {σ:ku} {h:H} {Q:tH}
theorem Lx {f:FuncId} {fn:Func} {s:S} {es:CL} {args:List Value} {R:Ending->H->Prop} (hmix:P.follows .mixedOrders=true) (hG:lQ P G) (hf:P.funcs[f]? =some fn)
  (hc:fn.body.bind (oZ P lv fn.ntmps)=some s) (hr:Da P lv fn.results.toList=some es) (hn:args.length<=fn.ntmps)
  (Hw:wpS G s (uK es R) (uy 0 args BM) h):HC P f args h R:=by
 letI:DS:=⟨[]⟩
 intro w hw
 subst hw
 obtain⟨c,hb,hc⟩:=gH.1 hc
 have R0:uR lv fn.ntmps {tmps:=args.toArray++Array.replicate (fn.ntmps - args.toArray.size) undef,defers:=[]} (uy 0 args BM) w.heap []:=by
  refine⟨λi _=> ?_,by simp;omega,rfl,λ_ _ hf=>(by cases hf),λ_ _ hf=>(by cases hf),λ_ _ hf=>(by cases hf),λ_ _ hf=>(by cases hf),zP⟩
  rw[Lv]
  simp only[fZ,aW,bJ,jA,BM]
  rw[cz,Array.getElem?_append]
  simp only[fI,List.getElem?_toArray]
  split
  ·rw[aG]
  ·simp only[Array.getElem?_replicate]
   split<;>rfl
 refine calls_of_wp hf hb (wp_mono (vW hG hmix c s _ _ _ w w hc R0 (pM.refl w) Hw) λe a' w' hq=> ?_)
 cases e with
 |normal=>obtain⟨hk,σ',R',hok,hR⟩:=hq;exact⟨(show a'.defers=[]from R'.df),_,zI R' hr hok,hk,hR⟩
 |ret=>obtain⟨hk,σ',R',hok,hR⟩:=hq;exact⟨(show a'.defers=[]from R'.df),_,zI R' hr hok,hk,hR⟩
 |panic c=>obtain⟨hk,hd,hR⟩:=hq;exact⟨(show a'.defers=[]from hd),hk,hR⟩
 |exit i=>obtain⟨_,_,_,hf⟩:=hq;exact hf.elim
 |goto l=>obtain⟨_,_,_,hf⟩:=hq;exact hf.elim
 |outgrown=>exact hq.elim
/-! ### Rules -/
theorem jE {α:Type} {s:S} (I:α->ku->H->Prop) (μ:α->Nat) (x:α) (h0:I x σ h)
  (round: ∀x σ h,I x σ h->wpS G s (BL (λσ' h'=> ∃y,I y σ' h'/\μ y<μ x) Q) σ h):wpS G (.loop s) Q σ h:=⟨α,I,μ,x,h0,round⟩
end
end Go.Ev
namespace Go.Ev
section
set_option linter.unusedVariables false
variable {P:Program} {G:lq} {σ:ku} {h:H} {Q:tH} {R:Ending->H->Prop}
theorem ajS{l:List St}:wpS G (.sts l) Q σ h=kT G l (Q .normal) (pQ Q) σ h:=(rfl)
theorem ah8:wpS G .skip Q σ h=Q .normal σ h:=(rfl)
theorem ajT{a b:S}:wpS G (.seq a b) Q σ h=wpS G a (BL (wpS G b Q) Q) σ h:=(rfl)
theorem jN{c:Prop} [Decidable c]{a b:Prop}:(if c then a else b)=((c->a)/\(¬c->b)):=by
 by_cases h:c<;>simp [h]
theorem ah9{t:Nat}{a b:S}:wpS G (.cond t a b) Q σ h=(qC (σ t)=true/\if tb (σ t)=true then wpS G a Q σ h else wpS G b Q σ h):=by
 rw[jN,iM];rfl
theorem vX{s:S}(M:ku->H->Prop)(hs:wpS G s (BL M Q) σ h)(hM: ∀σ' h',M σ' h'->Q .normal σ' h'):wpS G (.join s) Q σ h:=⟨M,hs,hM⟩
theorem ae9{id:Nat}{s:S}:wpS G (.block id s) Q σ h=wpS G s (Ew id Q) σ h:=(rfl)
theorem aia{id:Nat}:wpS G (.exit id) Q σ h=Q (.exit id) σ h:=(rfl)
theorem ajU:wpS G .ret Q σ h=Q .ret σ h:=(rfl)
theorem afa{s:S}:wpS G (.scope s) Q σ h=wpS G s (Ul Q) σ h:=(rfl)
theorem ajV{K:ku->H->Prop}{KP:List PanicEntry->H->Prop}:kT G [] K KP σ h=K σ h:=(rfl)
theorem ajW{K:ku->H->Prop}{KP:List PanicEntry->H->Prop}{d:Nat}{e:E}{r:List St}:kT G (.set d e::r) K KP σ h=kT G r K KP (jI σ d (val e σ h)) h:=(rfl)
theorem ajX{K:ku->H->Prop}{KP:List PanicEntry->H->Prop}{gs:Gs}{c:Chk}{r:List St}:kT G (.chk gs c::r) K KP σ h=((if CW gs σ h=true then yD c σ h else True)/\kT G r K KP σ h):=by
 rw[jN];simp [kT,abJ]
def nZ(G:lq)(f:F)(d:Option Nat)(st:su)(r:List St)(K:ku->H->Prop)(KP:List PanicEntry->H->Prop)(vs:List Value)(σ:ku)(h:H):Prop:=
 qp G f vs h (λv h'=>mq st σ h h'/\kT G r K KP (nD σ d v) h') KP
theorem ajY{K:ku->H->Prop}{KP:List PanicEntry->H->Prop}{d:Option Nat}{f:F}{xs:List E}{st:su}{r:List St}:kT G (.eff [] d f xs st::r) K KP σ h=nZ G f d st r K KP (xs.map λe=>val e σ h) σ h:=by
 simp [kT,abJ,CW,nZ]
theorem aib{K:ku->H->Prop}{KP:List PanicEntry->H->Prop}{d:Option Nat}{f:F}{xs:List E}{st:su}{r:List St}{g:E×Bool}{gs:Gs}:kT G (.eff (g::gs) d f xs st::r) K KP σ h=
  (if CW (g::gs) σ h=true then nZ G f d st r K KP (xs.map λe=>val e σ h) σ h else kT G r K KP (nD σ d undef) h):=by
 rw[jN,iM];rfl
theorem afb{K:ku->H->Prop}:BL K Q .normal σ h=K σ h:=(rfl)
theorem afc{K:ku->H->Prop}{i:Nat}:BL K Q (.exit i) σ h=Q (.exit i) σ h:=(rfl)
theorem afd{K:ku->H->Prop}:BL K Q .ret σ h=Q .ret σ h:=(rfl)
theorem afe{K:ku->H->Prop}{c:List PanicEntry}:BL K Q (.panic c) σ h=Q (.panic c) σ h:=(rfl)
theorem aff{id:Nat}:Ew id Q .normal σ h=Q .normal σ h:=(rfl)
theorem afg{id i:Nat}:Ew id Q (.exit i) σ h=if i=id then Q .normal σ h else Q (.exit i) σ h:=(rfl)
theorem afh{id:Nat}:Ew id Q .ret σ h=Q .ret σ h:=(rfl)
theorem aic:Ul Q .ret σ h=Q .ret σ h:=(rfl)
theorem afi{es:CL}:uK es R .normal σ h=(xK es σ h/\R (.returned (one (es.map λe=>val e.2 σ h))) h):=(rfl)
theorem afj{es:CL}:uK es R .ret σ h=(xK es σ h/\R (.returned (one (es.map λe=>val e.2 σ h))) h):=(rfl)
theorem afk{es:CL}{c:List PanicEntry}:uK es R (.panic c) σ h=R (.panicked c) h:=(rfl)
theorem afl{d i:Nat}{v:Value}:jI σ d v i=if i=d then v else σ i:=rfl
theorem aid(l:List UInt8):bl (.string ⟨l.toArray⟩)=l:=rfl
theorem afm(a b:List UInt8):(str a=str b)=(a=b):=by
 unfold str;simp
theorem aie{n:Int}(h1: -9223372036854775808<=n)(h2:n<=9223372036854775807):IntKind.i64.wrap n=n:=by
 rw[IntWalk.i64_left];exact IntWalk.wrap64_in n ⟨h1,h2⟩
theorem alo(b:Bool):tb (.bool b)=b:=(rfl)
theorem abQ(b:Bool):qC (.bool b)=true:=(rfl)
theorem aif(b:Bool):Zh (.bool b) true=b:=by cases b<;>rfl
theorem aig(b:Bool):Zh (.bool b) false= !b:=by cases b<;>rfl
theorem ajZ{σ:ku}{h:H}:CW [] σ h=true:=(rfl)
theorem aj0{σ:ku}{h:H}{e:E}{b:Bool}{g:Gs}:CW ((e,b)::g) σ h=(Zh (val e σ h) b && CW g σ h):=(rfl)
theorem afn{h:H}{a:Addr}:s1 .nilck (.pointer (some a)) h=True:=(rfl)
theorem aih{h:H}{a:Addr}{n:Nat}:s1 (.fld n) (.pointer (some a)) h=True:=(rfl)
theorem aj1{h:H}{b o n:Nat}:v1 (.fld n) (.pointer (some ⟨b,o,none⟩)) h= .pointer (some ⟨b,o+n,none⟩):=by simp [v1,Zl]
theorem aii{h:H}{b o:Nat}:s1 .ld1 (.pointer (some ⟨b,o,none⟩)) h=(o<lS h b):=(rfl)
theorem aij{h:H}{b o n:Nat}:s1 (.ldn n) (.pointer (some ⟨b,o,none⟩)) h=(o+n<=lS h b):=(rfl)
theorem aj2{h:H}{b o:Nat}:v1 .ld1 (.pointer (some ⟨b,o,none⟩)) h=hv h b o:=(rfl)
theorem aj3{h:H}{b o n:Nat}:v1 (.ldn n) (.pointer (some ⟨b,o,none⟩)) h= .agg (qV h b o n).toArray:=(rfl)
theorem aik{h:H}(b:Bool):s1 .not (.bool b) h=True:=by simp [s1,qC]
theorem aj4{h:H}(b:Bool):v1 .not (.bool b) h= .bool !b:=(rfl)
theorem ail{h:H}(k:IntKind)(n:Int):s1 .neg (.int k n) h=True:=by simp [s1,kS]
theorem aj5{h:H}(k:IntKind)(n:Int):v1 .neg (.int k n) h= .int k (k.wrap (0 - n)):=(rfl)
theorem afo{h:H}(l:List UInt8):s1 .lens (str l) h=True:=by simp [s1]
theorem aim{h:H}(l:List UInt8):v1 .lens (str l) h= .int .i64 l.length:=(rfl)
theorem ain{h:H}(a:Option Addr)(n c:Nat):s1 .len (.slice a n c) h=True:=by simp [s1,abZ]
theorem aj6{h:H}(a:Option Addr)(n c:Nat):v1 .len (.slice a n c) h= .int .i64 n:=(rfl)
theorem afp{h:H}(j k:IntKind)(n:Int):s1 (.conv j) (.int k n) h=True:=by simp [s1,kS]
theorem aio{h:H}(j k:IntKind)(n:Int):v1 (.conv j) (.int k n) h= .int j (j.wrap n):=(rfl)
theorem aip{h:H}(k:IntKind)(a b:Int):s2 (.bin .eql) (.int k a) (.int k b) h=True:=by simp [s2,kS,tk,tN]
theorem aj7{h:H}(k:IntKind)(a b:Int):v2 (.bin .eql) (.int k a) (.int k b) h= .bool (decide (a=b)):=(rfl)
theorem aiq{h:H}(k:IntKind)(a b:Int):s2 (.bin .neq) (.int k a) (.int k b) h=True:=by simp [s2,kS,tk,tN]
theorem aj8{h:H}(k:IntKind)(a b:Int):v2 (.bin .neq) (.int k a) (.int k b) h= .bool (!decide (a=b)):=(rfl)
theorem air{h:H}(k:IntKind)(a b:Int):s2 (.bin .lss) (.int k a) (.int k b) h=True:=by simp [s2,kS,tk,tN]
theorem aj9{h:H}(k:IntKind)(a b:Int):v2 (.bin .lss) (.int k a) (.int k b) h= .bool (decide (a<b)):=(rfl)
theorem ais{h:H}(k:IntKind)(a b:Int):s2 (.bin .leq) (.int k a) (.int k b) h=True:=by simp [s2,kS,tk,tN]
theorem aka{h:H}(k:IntKind)(a b:Int):v2 (.bin .leq) (.int k a) (.int k b) h= .bool (decide (a<=b)):=(rfl)
theorem ait{h:H}(k:IntKind)(a b:Int):s2 (.bin .gtr) (.int k a) (.int k b) h=True:=by simp [s2,kS,tk,tN]
theorem akb{h:H}(k:IntKind)(a b:Int):v2 (.bin .gtr) (.int k a) (.int k b) h= .bool (decide (b<a)):=(rfl)
theorem aiu{h:H}(k:IntKind)(a b:Int):s2 (.bin .geq) (.int k a) (.int k b) h=True:=by simp [s2,kS,tk,tN]
theorem akc{h:H}(k:IntKind)(a b:Int):v2 (.bin .geq) (.int k a) (.int k b) h= .bool (decide (b<=a)):=(rfl)
theorem aiv{h:H}(k:IntKind)(a b:Int):s2 (.bin .add) (.int k a) (.int k b) h=True:=by simp [s2,kS,tk,tN,wU]
theorem akd{h:H}(k:IntKind)(a b:Int):v2 (.bin .add) (.int k a) (.int k b) h= .int k (k.wrap (a+b)):=(rfl)
theorem abR{h:H}(k:IntKind)(a b:Int):s2 (.bin .sub) (.int k a) (.int k b) h=True:=by simp [s2,kS,tk,tN,wU]
theorem ake{h:H}(k:IntKind)(a b:Int):v2 (.bin .sub) (.int k a) (.int k b) h= .int k (k.wrap (a - b)):=(rfl)
theorem aiw{h:H}(k:IntKind)(a b:Int):s2 (.bin .mul) (.int k a) (.int k b) h=True:=by simp [s2,kS,tk,tN,wU]
theorem akf{h:H}(k:IntKind)(a b:Int):v2 (.bin .mul) (.int k a) (.int k b) h= .int k (k.wrap (a*b)):=(rfl)
theorem aix{h:H}(k:IntKind)(a b:Int):s2 (.bin .quo) (.int k a) (.int k b) h=(b≠0):=by simp [s2,kS,tk,tN,wU,ti]
theorem akg{h:H}(k:IntKind)(a b:Int):v2 (.bin .quo) (.int k a) (.int k b) h= .int k (k.wrap (a.tdiv b)):=(rfl)
theorem aiy{h:H}(k:IntKind)(a b:Int):s2 (.bin .rem) (.int k a) (.int k b) h=(b≠0):=by simp [s2,kS,tk,tN,wU,ti]
theorem akh{h:H}(k:IntKind)(a b:Int):v2 (.bin .rem) (.int k a) (.int k b) h= .int k (a.tmod b):=(rfl)
theorem afq{h:H}(a b:List UInt8):s2 (.bin .eql) (str a) (str b) h=True:=by simp [s2,str,qJ,tN]
theorem aiz{h:H}(a b:List UInt8):v2 (.bin .eql) (str a) (str b) h= .bool (decide (a=b)):=(rfl)
theorem afr{h:H}(a b:List UInt8):s2 (.bin .neq) (str a) (str b) h=True:=by simp [s2,str,qJ,tN]
theorem aiA{h:H}(a b:List UInt8):v2 (.bin .neq) (str a) (str b) h= .bool (!decide (a=b)):=(rfl)
theorem afs{h:H}(a b:List UInt8):s2 (.bin .gtr) (str a) (str b) h=True:=by simp [s2,str,qJ,tN]
theorem aiB{h:H}(a b:List UInt8):v2 (.bin .gtr) (str a) (str b) h= .bool (!(Op.bytesLess a b || decide (a=b))):=(rfl)
theorem afu{h:H}(a b:List UInt8):s2 (.bin .add) (str a) (str b) h=(a.length+b.length<=9223372036854775807):=by simp [s2,str,qJ,tN,bl]
theorem aiC{h:H}(a b:List UInt8):v2 (.bin .add) (str a) (str b) h=str (a++b):=(rfl)
theorem aiD{h:H}(n a b:Bool):s2 (.eqb n) (.bool a) (.bool b) h=True:=by simp [s2,qC]
theorem aki{h:H}(a b:Bool):v2 (.eqb true) (.bool a) (.bool b) h= .bool (!decide (a=b)):=(rfl)
theorem afv{h:H}(l:List UInt8)(k:IntKind)(i:Int):s2 .idxS (str l) (.int k i) h=(0<=i/\i<l.length):=by simp [s2,kS,ti]
theorem aiE{h:H}(l:List UInt8)(k:IntKind)(i:Int):v2 .idxS (str l) (.int k i) h= .int .u8 (l.getD i.toNat 0).toNat:=(rfl)
theorem afw{h:H}(m:Nat)(a:Addr)(n c:Nat)(k:IntKind)(i:Int):s2 (.idxA m) (.slice (some a) n c) (.int k i) h=(0<=i/\i<n):=by simp [s2,kS,ti]
theorem aiF{h:H}(m b o:Nat)(n c:Nat)(k:IntKind)(i:Int):v2 (.idxA m) (.slice (some ⟨b,o,none⟩) n c) (.int k i) h= .pointer (some ⟨b,o+i.toNat*m,none⟩):=by simp [v2,ti,Zl]
theorem abS{h:H}(l:List UInt8)(k:IntKind)(i:Int):s2 .subLo (str l) (.int k i) h=(0<=i/\i<=l.length):=by simp [s2,kS,ti]
theorem afx{h:H}(l:List UInt8)(k:IntKind)(i:Int):v2 .subLo (str l) (.int k i) h=str (l.drop i.toNat):=(rfl)
theorem abT{h:H}(l:List UInt8)(k:IntKind)(i:Int):s2 .subHi (str l) (.int k i) h=(0<=i/\i<=l.length):=by simp [s2,kS,ti]
theorem afy{h:H}(l:List UInt8)(k:IntKind)(i:Int):v2 .subHi (str l) (.int k i) h=str (l.take i.toNat):=(rfl)
theorem afz{h:H}(l:List UInt8)(k k':IntKind)(i j:Int):s3 .sub (str l) (.int k i) (.int k' j) h=(0<=i/\i<=j/\j<=l.length):=by simp [s3,kS,ti]
theorem aiG{h:H}(l:List UInt8)(k k':IntKind)(i j:Int):v3 .sub (str l) (.int k i) (.int k' j) h=str ((l.take j.toNat).drop i.toNat):=(rfl)
theorem afA{h:H}(c:Bool)(a b:Value):s3 .pick (.bool c) a b h=True:=by simp [s3,qC]
theorem afB{h:H}(a b:Value):v3 .pick (.bool true) a b h=a:=(rfl)
theorem afC{h:H}(a b:Value):v3 .pick (.bool false) a b h=b:=(rfl)
theorem akj{h:H}(c b:Bool):v3 .pick (.bool c) (.bool true) (.bool b) h= .bool (c || b):=by cases c<;>rfl
theorem aiH{h:H}(c b:Bool):v3 .pick (.bool c) (.bool b) (.bool false) h= .bool (c && b):=by cases c<;>rfl
theorem abU{h:H}(m:Nat)(a:Option Addr)(n c:Nat)(k:IntKind)(i:Int):s2 (.cutLo m) (.slice a n c) (.int k i) h=(0<=i/\i<=n):=by simp [s2,kS,ti]
theorem abV{h:H}(m:Nat)(a:Option Addr)(n c:Nat)(k:IntKind)(i:Int):s2 (.cutHi m) (.slice a n c) (.int k i) h=(0<=i/\i<=c):=by simp [s2,kS,ti]
theorem afD{h:H}(m:Nat)(a:Option Addr)(n c:Nat)(k:IntKind)(i:Int):v2 (.cutHi m) (.slice a n c) (.int k i) h= .slice a i.toNat c:=(rfl)
theorem aiI{σ:ku}{d:Nat}{v:Value}:nD σ (some d) v=jI σ d v:=(rfl)
theorem aiJ{σ:ku}{v:Value}:nD σ none v=σ:=(rfl)
theorem rE{σ:ku}{h h':H}:mq [] σ h h'=True:=by simp [mq]
theorem jO{σ:ku}{h h':H}:mq [] σ h h':=by rw[rE];trivial
theorem afE{σ:ku}{h h':H}{p:Gs×E×Option Nat}{l:su}:mq (p::l) σ h h'=((CW p.1 σ h=true->rT (val p.2.1 σ h) p.2.2 h h')/\mq l σ h h'):=by simp [mq]
theorem afF{h h':H}{b o:Nat}:rT (.pointer (some ⟨b,o,none⟩)) none h h'=(o<lS h' b/\hv h' b o=hv h b o):=(rfl)
theorem afG{h h':H}{b o n:Nat}:rT (.pointer (some ⟨b,o,none⟩)) (some n) h h'=(o+n<=lS h' b/\qV h' b o n=qV h b o n):=(rfl)
theorem aiK{k:Nat}{σ:ku}:uy k [] σ=σ:=(rfl)
theorem aiL{k:Nat}{a:Value}{l:List Value}{σ:ku}:uy k (a::l) σ=uy (k+1) l (jI σ k a):=(rfl)
theorem aiM{σ:ku}{h:H}:xK [] σ h=True:=(rfl)
theorem aiN{e:E}{l:CL}{σ:ku}{h:H}:xK ((none,e)::l) σ h=xK l σ h:=(rfl)
theorem aiO{c:Chk}{e:E}{l:CL}{σ:ku}{h:H}:xK ((some c,e)::l) σ h=(yD c σ h/\xK l σ h):=(rfl)
theorem aiP{v:Value}:one [v]=v:=(rfl)
theorem aiQ:one []= .tuple #[]:=(rfl)
theorem aiR{a b:Value}{l:List Value}:one (a::b::l)= .tuple (a::b::l).toArray:=(rfl)
theorem nE{G:lq}{d:Option Nat}{st:su}{r:List St}{K:ku->H->Prop}{KP:List PanicEntry->H->Prop}{σ:ku}{h:H}{f:FuncId}{vs:List Value}:nZ G (.call f) d st r K KP vs σ h=G f vs h (λv h'=>mq st σ h h'/\kT G r K KP (nD σ d v) h') KP:=(rfl)
theorem akk{G:lq}{d:Option Nat}{st:su}{r:List St}{K:ku->H->Prop}{KP:List PanicEntry->H->Prop}{σ:ku}{h:H}{t:TypeId}{v:Value}:nZ G (.box t) d st r K KP [v] σ h=(mq st σ h (h.push (.cells v.cells t))/\kT G r K KP (nD σ d (.pointer (some ⟨h.size,0,none⟩))) (h.push (.cells v.cells t))):=(rfl)
theorem afH{G:lq}{d:Option Nat}{st:su}{r:List St}{K:ku->H->Prop}{KP:List PanicEntry->H->Prop}{σ:ku}{h:H}{t:TypeId}{z:Array Value}:nZ G (.alloc t z) d st r K KP [] σ h=(mq st σ h (h.push (.cells z t))/\kT G r K KP (nD σ d (.pointer (some ⟨h.size,0,none⟩))) (h.push (.cells z t))):=(rfl)
theorem afI{G:lq}{d:Option Nat}{st:su}{r:List St}{K:ku->H->Prop}{KP:List PanicEntry->H->Prop}{σ:ku}{h:H}{n b o:Nat}{v:Value}:nZ G (.store n) d st r K KP [.pointer (some ⟨b,o,none⟩),v] σ h=(v.cells.size=n/\o+n<=lS h b/\(o+n<=(tJ h b).1\/(tJ h b).2<=o)/\v.cells.toList.all tV=true/\mq st σ h (jW h b o v.cells.toList)/\kT G r K KP (nD σ d undef) (jW h b o v.cells.toList)):=(rfl)
theorem akl{G:lq}{d:Option Nat}{st:su}{r:List St}{K:ku->H->Prop}{KP:List PanicEntry->H->Prop}{σ:ku}{h:H}{t:TypeId}{v:Value}:nZ G .pnc d st r K KP [.iface t v] σ h=KP [{v:= .iface t v,recovered:=false}] h:=(rfl)
theorem alp{K:Value->H->Prop}{KP:List PanicEntry->H->Prop}{v:Value}{h:H}:pz K KP (.returned v) h=K v h:=(rfl)
theorem alq{K:Value->H->Prop}{KP:List PanicEntry->H->Prop}{c:List PanicEntry}{h:H}:pz K KP (.panicked c) h=KP c h:=(rfl)
theorem alr{Q:tH}{c:List PanicEntry}{h:H}:pQ Q c h=Q (.panic c) (λ_=>undef) h:=(rfl)
def cbP(n:Nat)(σ:ku)(h:H):List (Nat×Nat×E)->Prop
 |[]=>True
 |(o,l,x)::r=>(val x σ h).cells.size=l/\o+l<=n/\cbP n σ h r
theorem akm{n:Nat}{σ:ku}{h:H}:cbP n σ h []=True:=(rfl)
theorem akn{n o l:Nat}{σ:ku}{h:H}{x:E}{r:List (Nat×Nat×E)}:cbP n σ h ((o,l,x)::r)=((val x σ h).cells.size=l/\o+l<=n/\cbP n σ h r):=(rfl)
theorem aiT{n:Nat}{ps:List (Nat×Nat×E)}{σ:ku}{h:H}:yD (.cb n ps) σ h=cbP n σ h ps:=by
 induction ps with
 |nil=>simp [yD,cbP]
 |cons p r ih=>obtain⟨o,l,x⟩:=p;simp only[yD]at ih;simp only[yD,cbP,List.forall_mem_cons,<-ih,and_assoc]
theorem aiU{q:Q1}{a:E}{σ:ku}{h:H}:yD (.c1 q a) σ h=s1 q (val a σ h) h:=(rfl)
theorem aiV{q:Q2}{a b:E}{σ:ku}{h:H}:yD (.c2 q a b) σ h=s2 q (val a σ h) (val b σ h) h:=(rfl)
theorem aiW{q:Q3}{a b c:E}{σ:ku}{h:H}:yD (.c3 q a b c) σ h=s3 q (val a σ h) (val b σ h) (val c σ h) h:=(rfl)
/-! ### Rows of cells as lists -/
theorem aiX{h:H}(l:List Value)(i:Nat):s1 (.ext i) (.tuple l.toArray) h=(i<l.length):=by simp [s1]
theorem ako{h:H}(l:List Value)(i:Nat):v1 (.ext i) (.tuple l.toArray) h=l.getD i undef:=by simp [v1,aG]
theorem afJ{h:H}(l:List Value)(i:Nat):s1 (.part i) (.agg l.toArray) h=(i<l.length):=by simp [s1]
theorem aiY{h:H}(l:List Value)(i:Nat):v1 (.part i) (.agg l.toArray) h=l.getD i undef:=by simp [v1,aG]
def PU:List Value->Nat->List Value->List Value
 |l,_,[]=>l
 |l,o,v::r=>PU (l.set o v) (o+1) r
theorem Hu(o:Nat): ∀(m:List Value) (k:Nat) (l:List Value),(m.zipIdx k).foldl (fun(cs:Array Value) p=>cs.setIfInBounds (o+p.2) p.1) l.toArray=(PU l (o+k) m).toArray
 |[],_,_=>rfl
 |v::r,k,l=>by
  simp only[List.zipIdx_cons,bN,List.setIfInBounds_toArray,PU]
  exact Hu o r (k+1) _
theorem PV(l m:List Value)(o:Nat):zL l.toArray o (.agg m.toArray)=(PU l o m).toArray:=by
 unfold zL
 show(m.toArray.zipIdx).foldl _ _=_
 rw[<-gm,Array.toList_zipIdx]
 exact Hu o m 0 l
theorem xL{v:Value}(hv:v.cells= #[v])(l:List Value)(o:Nat):zL l.toArray o v=(l.set o v).toArray:=by
 unfold zL;rw[hv];simp
theorem akp{h:H}(l m:List Value)(o n:Nat):v2 (.put o n) (.agg l.toArray) (.agg m.toArray) h= .agg (PU l o m).toArray:=by simp only[v2,PV]
theorem abW(k:IntKind)(n:Int):(Value.int k n).cells= #[.int k n]:=rfl
theorem abX(b:Bool):(Value.bool b).cells= #[.bool b]:=rfl
theorem abY(l:List UInt8):(str l).cells= #[str l]:=rfl
theorem aiZ(l:List UInt8):Value.cells.match_1 (λ_=>Array Value) (str l) (λcs=>cs) (λv=> #[v])= #[str l]:=rfl
theorem MX(a:Option Addr)(n c:Nat):(Value.slice a n c).cells= #[.slice a n c]:=rfl
theorem ahs(a:Option Addr):(Value.pointer a).cells= #[.pointer a]:=rfl
theorem akq(c:Array Value):(Value.agg c).cells=c:=rfl
theorem akr{h:H}(l:List Value)(o n:Nat)(k:IntKind)(i:Int):v2 (.put o n) (.agg l.toArray) (.int k i) h= .agg (l.set o (.int k i)).toArray:=by simp only[v2,xL (abW k i)]
theorem ai0{h:H}(l:List Value)(o n:Nat)(b:Bool):v2 (.put o n) (.agg l.toArray) (.bool b) h= .agg (l.set o (.bool b)).toArray:=by simp only[v2,xL (abX b)]
theorem aks{h:H}(l:List Value)(o n:Nat)(s:List UInt8):v2 (.put o n) (.agg l.toArray) (str s) h= .agg (l.set o (str s)).toArray:=by simp only[v2,xL (abY s)]
theorem afK{h:H}(l:List Value)(o n:Nat)(a:Option Addr)(m c:Nat):v2 (.put o n) (.agg l.toArray) (.slice a m c) h= .agg (l.set o (.slice a m c)).toArray:=by simp only[v2,xL (MX a m c)]
theorem akt{h:H}(l:List Value)(o n:Nat)(a:Option Addr):v2 (.put o n) (.agg l.toArray) (.pointer a) h= .agg (l.set o (.pointer a)).toArray:=by simp only[v2,xL (ahs a)]
theorem aku(k:IntKind)(n:Int):tV (.int k n)=true:=rfl
theorem ai1(b:Bool):tV (.bool b)=true:=rfl
theorem akv(l:List UInt8):tV (str l)=true:=rfl
theorem afL(a:Option Addr)(n c:Nat):tV (.slice a n c)=true:=rfl
theorem akw(a:Option Addr):tV (.pointer a)=true:=rfl
/-! ### The heap behind a push and a store -/
theorem pu{h:H}{x:Obj}{b:Nat}(hb:b≠h.size):(h.push x)[b]? =h[b]? :=by rw[Array.getElem?_push,af hb]
theorem vY{h:H}{x:Obj}:(h.push x)[h.size]? =some x:=zP
theorem uO{h:H}{x:Obj}{b o:Nat}(hb:b<h.size):hv (h.push x) b o=hv h b o:=by unfold hv hc;rw[pu zO]
theorem zK{h:H}{x:Obj}{b:Nat}(hb:b<h.size):lS (h.push x) b=lS h b:=by unfold lS;rw[pu zO]
theorem MZ{h:H}{x:Obj}{b:Nat}(hb:b<h.size):tJ (h.push x) b=tJ h b:=by unfold tJ;rw[pu zO]
theorem yH{h:H}{c:List Value}{t:TypeId}{f:Nat×Nat}{k o:Nat}(hk:k=h.size):hv (h.push (.cells c.toArray t f)) k o=c.getD o undef:=by
 subst hk
 unfold hv hc;rw[vY];simp [aG]
theorem uo{h:H}{c:List Value}{t:TypeId}{f:Nat×Nat}{k:Nat}(hk:k=h.size):lS (h.push (.cells c.toArray t f)) k=c.length:=by subst hk;unfold lS;rw[vY];simp
theorem uS{h:H}{c:Array Value}{t:TypeId}{f:Nat×Nat}{k:Nat}(hk:k=h.size):tJ (h.push (.cells c t f)) k=f:=by subst hk;unfold tJ;rw[vY]
theorem kw{h:H}{x:Obj}:(h.push x).size=h.size+1:=zP
theorem Cg{h:H}{b o k:Nat}{v:Value}:lS (ky h b o v) k=lS h k:=Nk h b o v k
theorem Na{h:H}{b o k:Nat}{v:Value}:tJ (ky h b o v) k=tJ h k:=Nl h b o v k
theorem wS{h:H}{b o:Nat}{v:Value}:(ky h b o v).size=h.size:=by simp [ky]
theorem zz:(∀{h:H} {b o:Nat} {v:Value},(ky h b o v).size=h.size)/\(∀{h:H} {x:Obj},(h.push x).size=h.size+1)/\(∀{h:H} {b o k:Nat} {v:Value},lS (ky h b o v) k=lS h k)/\(∀{α:Type} {a:α} {l:List α},(a::l).length=l.length+1)/\ ∀{α:Type},([]:List α).length=0:=⟨wS,kw,Cg,rfl,rfl⟩
theorem PW{h:H}{b o k i:Nat}{v:Value}(hb:o<lS h b):hv (ky h b o v) k i=if k=b/\i=o then v else hv h k i:=by
 unfold hv hc
 rw[mW]
 by_cases hk:k=b
 ·subst hk
  rw[ah rfl]
  unfold lS at hb
  cases hx:h[k]? with
  |none=>simp [hx]at hb
  |some x=>
   cases x<;>simp only[hx,fZ]at hb
   rename_i c e f
   simp only[bn,true_and]
   by_cases hi:i=o
   ·subst hi;simp [hb]
   ·rw[af hi,eD (gF hi)]
 ·rw[af hk,af (by simp [hk])]
theorem Uq(h:H)(b o:Nat)(v u:Value):ky (ky h b o v) b o u=ky h b o u:=by
 apply gq
 intro k
 rw[mW,mW,mW h b o u]
 by_cases hk:k=b
 ·subst hk
  simp only[bv]
  cases h[k]? with
  |none=>rfl
  |some x=>cases x<;>simp [Array.setIfInBounds_setIfInBounds]
 ·simp [hk,mW]
theorem Zg{h:H}{b o:Nat}(hb:o<lS h b):ky h b o (hv h b o)=h:=by
 apply gq
 intro k
 rw[mW]
 by_cases hk:k=b
 ·subst hk
  unfold lS at hb;unfold hv hc
  cases hx:h[k]? with
  |none=>simp [hx]at hb
  |some x=>
   cases x<;>simp only[hx,fZ]at hb
   rename_i c e f
   simp only[bv,bn,aQ,Obj.cells.injEq,aC]
   apply Array.ext zP
   intro i h1 h2
   rw[Array.getElem_setIfInBounds (by simpa using h1)]
   by_cases hi:o=i
   ·subst hi;simp [h2]
   ·simp [hi]
 ·simp [hk]
theorem Hy(h:H)(c:List Value)(t:TypeId)(f:Nat×Nat)(k o:Nat)(v:Value)(hk:k=h.size):ky (h.push (.cells c.toArray t f)) k o v=h.push (.cells (c.set o v).toArray t f):=by
 subst hk
 apply gq
 intro k
 rw[mW]
 by_cases hk:k=h.size
 ·subst hk;simp
 ·rw[af hk,pu hk,pu hk]
theorem LA(h:H)(x:Obj)(b o:Nat)(v:Value)(hb:b<h.size):ky (h.push x) b o v=(ky h b o v).push x:=by
 apply gq
 intro k
 rw[mW]
 by_cases hk:k=b
 ·subst hk
  rw[ah rfl,pu zO,pu (by simp [ky];omega),mW,ah rfl]
 ·rw[af hk]
  by_cases hk2:k=h.size
  ·subst hk2
   have:h.size=(ky h b o v).size:=by simp [ky]
   rw[vY];conv=>rhs;rw[this]
   rw[vY]
  ·rw[pu hk2,pu (by simp [ky];exact hk2),mW,af hk]
theorem Ur{h:H}{b o:Nat}{v:Value}:jW h b o [v]=ky h b o v:=(rfl)
theorem Fy(h:H)(t:TypeId)(f:Nat×Nat)(k:Nat)(hk:k=h.size): ∀(c l:List Value) (o:Nat),jW (h.push (.cells c.toArray t f)) k o l=h.push (.cells (PU c o l).toArray t f)
 |c,[],o=>rfl
 |c,v::l,o=>by rw[jW,Hy h c t f k o v hk,Fy h t f k hk (c.set o v) l (o+1)];rfl
theorem Hz(x:Obj)(b:Nat): ∀(l:List Value) (h:H) (o:Nat),b<h.size->jW (h.push x) b o l=(jW h b o l).push x
 |[],h,o,_=>rfl
 |v::l,h,o,hb=>by rw[jW,LA h x b o v hb,Hz x b l (ky h b o v) (o+1) (by simpa [ky]using hb)];rfl
theorem afM(k n:Nat):((k:Int)+(no_index (OfNat.ofNat n):Int)).toNat=k+n:=by
 show((k:Int)+(n:Int)).toNat=k+n
 omega
attribute [go_sem low] jN
attribute [go_sem] akl afz alo abQ aif aig ajZ aj0 afn aih aj1 aii aij aj2 aj3 aik aj4 ail aj5 afo aim ain aj6 aiX ako afJ aiY abW abX abY aiZ MX ahs akq akr ai0 aks afK akt akp PU aku ai1 akv afL akw gX gW au aA fI cu dK fU eU dY gZ il List.all_nil ay afp aio aip aj7 aiq aj8 air aj9 ais aka ait akb aiu akc aiv akd abR ake aiw akf aix akg aiy akh afq aiz afr aiA afs aiB afu aiC aiD aki afv aiE afw aiF abS afx abT afy abR aiG afA afB afC iM akj aiH abU abV afD aiI aiJ rE afE afF afG aiK aiL aiM aiN aiO aiP aiQ aiR akk afH afI alp alq alr ajS ah8 ajT ah9 ae9 aia ajU afa ajV ajW ajX ajY aib afb afc afd afe aff afg afh aic afi afj afk afl val aiU aiV aiW aiT akm akn aid afm Hy LA uO zK MZ yH uo uS kw Cg Na wS Uq Ur Fy Hz afM
def zg(n:Nat)(e:E):St:= .chk [] (.c1 (.fld n) e)
def zh(e:E):St:= .chk [] (.c1 .ld1 e)
def zx(n:Nat)(a b:E):St:= .chk [] (.c2 (.idxA n) a b)
def zq(o:BinOp)(a b:E):St:= .chk [] (.c2 (.bin o) a b)
def zk(q:Q1)(e:E):St:= .chk [] (.c1 q e)
def zl(e:E):E:= .o1 .ld1 e
def zf(n:Nat)(e:E):E:= .o1 (.fld n) e
def zi(n:Nat)(a b:E):E:= .o2 (.idxA n) a b
def zb(o:BinOp)(a b:E):E:= .o2 (.bin o) a b
def zv(n:Int):E:= .c (.int .i64 n)
attribute [go_sem] zg zh zx zq zk zl zf zi zb zv
attribute [go_sem] false_or or_false true_or or_true Int.natCast_inj ax Value.int.injEq Value.bool.injEq and_assoc exists_and_left exists_eq_left' exists_eq_left exists_const Value.pointer.injEq aQ Addr.mk.injEq true_and aC true_implies false_and and_false implies_true bv aW dI gM aD aS bK bJ dO not_false_eq_true not_true_eq_false aL decide_eq_false_iff_not iD Bool.not_eq_false' aM dW je dx dH imp_false forall_const false_implies eQ gG eq_self ne_eq Bool.decide_eq_true
attribute [go_sem] Nat.reduceEqDiff Nat.reduceAdd Nat.reduceSub Nat.reduceMul Nat.reduceLT Nat.reduceLeDiff Int.reduceLE Int.reduceLT Int.reduceEq Int.reduceToNat Int.reduceNeg Int.reduceAdd Int.cast_ofNat_Int aie
end
theorem Kw:(∀{α:Type} (l:List α),(Array.mk l)=l.toArray)/\ ∀l:List UInt8,Value.string (ByteArray.mk l.toArray)=str l:=⟨λ_=>rfl,λ_=>rfl⟩
section
variable {P:Program} {lv:Nat->Bool} {N:Nat} {a b:Code} {x y:S}
theorem c0{fn:Func}{c:Code}(h:fn.body=some c)(h2:oZ P lv N c=some x):fn.body.bind (oZ P lv N)=some x:=by rw[h];exact h2
theorem cV(k:Nat)(s:S){o d}(h:oZ P lv N (.region k o d)=some s):oZ P lv N (.region k o d)=some s:=h
theorem cS(h1:oZ P lv N a=some x)(h2:oZ P lv N b=some y):oZ P lv N (.seq a b)=some (.seq x y):=by simp only[oZ,h1,h2]
theorem cK{i}(h1:oZ P lv N a=some x):oZ P lv N (.block i a)=some (.block i x):=by simp only[oZ,h1,bn]
theorem cL(h1:oZ P lv N a=some x):oZ P lv N (.loop a)=some (.loop x):=by simp only[oZ,h1,bn]
theorem cX(h1:oZ P lv N a=some x):oZ P lv N (.scope a)=some (.scope x):=by simp only[oZ,h1,bn]
theorem cC{t}(ht:lv t=true)(h1:oZ P lv N a=some x)(h2:oZ P lv N b=some y):oZ P lv N (.cond (.tmp t) a b)=some (.cond t x y):=by simp only[oZ,ht,h1,h2,bv]
end
theorem pX{P:Program}{n:FuncId}{C:List Value->H->(Value->H->Prop)->Prop}(x: ∀{vs h K KP},C vs h K->kN P n vs h K KP):lQ P (λf vs h K _=>f=n/\C vs h K):=by
 rintro f vs h K KP ⟨rfl,c⟩
 exact x c
theorem lY{P:Program}{n:FuncId}{G:lq}{C:List Value->H->(Value->H->Prop)->Prop}(x: ∀{vs h K KP},C vs h K->kN P n vs h K KP)(y:lQ P G):lQ P (λf vs h K KP=>(f=n/\C vs h K)\/G f vs h K KP):=by
 rintro f vs h K KP (⟨rfl,c⟩|c)
 ·exact x c
 ·exact y _ _ _ _ _ c
def HX0(P:Program)(s:S)(e:CL)(n:FuncId):Prop:= ∀(G:lq) (_:lQ P G) {h:H} {K:Value->H->Prop} {KP:List PanicEntry->H->Prop},wpS G s (uK e (pz K KP)) (uy 0 [] BM) h->kN P n [] h K KP
theorem hx0{P:Program}{s:S}{e:CL}{n:FuncId}{fn:Func}(lv:Nat->Bool)(hm:P.follows .mixedOrders=true)(hf:P.funcs[n]? =some fn)(hb:Kz P n=true)(hc:fn.body.bind (oZ P lv fn.ntmps)=some s)(hr:Da P lv fn.results.toList=some e)(hn:decide (0<=fn.ntmps)=true):HX0 P s e n:=λ_ hG _ _ _ w=> .inl ⟨hb,Lx hm hG hf hc hr (of_decide_eq_true hn) w⟩
def HX1(P:Program)(s:S)(e:CL)(n:FuncId):Prop:= ∀(G:lq) (_:lQ P G) (a0:Value) {h:H} {K:Value->H->Prop} {KP:List PanicEntry->H->Prop},wpS G s (uK e (pz K KP)) (uy 0 [a0] BM) h->kN P n [a0] h K KP
theorem Ub{P:Program}{s:S}{e:CL}{n:FuncId}{fn:Func}(lv:Nat->Bool)(hm:P.follows .mixedOrders=true)(hf:P.funcs[n]? =some fn)(hb:Kz P n=true)(hc:fn.body.bind (oZ P lv fn.ntmps)=some s)(hr:Da P lv fn.results.toList=some e)(hn:decide (1<=fn.ntmps)=true):HX1 P s e n:=λ_ hG a0 _ _ _ w=> .inl ⟨hb,Lx hm hG hf hc hr (of_decide_eq_true hn) w⟩
def HX2(P:Program)(s:S)(e:CL)(n:FuncId):Prop:= ∀(G:lq) (_:lQ P G) (a0 a1:Value) {h:H} {K:Value->H->Prop} {KP:List PanicEntry->H->Prop},wpS G s (uK e (pz K KP)) (uy 0 [a0,a1] BM) h->kN P n [a0,a1] h K KP
theorem Uc{P:Program}{s:S}{e:CL}{n:FuncId}{fn:Func}(lv:Nat->Bool)(hm:P.follows .mixedOrders=true)(hf:P.funcs[n]? =some fn)(hb:Kz P n=true)(hc:fn.body.bind (oZ P lv fn.ntmps)=some s)(hr:Da P lv fn.results.toList=some e)(hn:decide (2<=fn.ntmps)=true):HX2 P s e n:=λ_ hG a0 a1 _ _ _ w=> .inl ⟨hb,Lx hm hG hf hc hr (of_decide_eq_true hn) w⟩
def HX3(P:Program)(s:S)(e:CL)(n:FuncId):Prop:= ∀(G:lq) (_:lQ P G) (a0 a1 a2:Value) {h:H} {K:Value->H->Prop} {KP:List PanicEntry->H->Prop},wpS G s (uK e (pz K KP)) (uy 0 [a0,a1,a2] BM) h->kN P n [a0,a1,a2] h K KP
theorem hx3{P:Program}{s:S}{e:CL}{n:FuncId}{fn:Func}(lv:Nat->Bool)(hm:P.follows .mixedOrders=true)(hf:P.funcs[n]? =some fn)(hb:Kz P n=true)(hc:fn.body.bind (oZ P lv fn.ntmps)=some s)(hr:Da P lv fn.results.toList=some e)(hn:decide (3<=fn.ntmps)=true):HX3 P s e n:=λ_ hG a0 a1 a2 _ _ _ w=> .inl ⟨hb,Lx hm hG hf hc hr (of_decide_eq_true hn) w⟩
def HX4(P:Program)(s:S)(e:CL)(n:FuncId):Prop:= ∀(G:lq) (_:lQ P G) (a0 a1 a2 a3:Value) {h:H} {K:Value->H->Prop} {KP:List PanicEntry->H->Prop},wpS G s (uK e (pz K KP)) (uy 0 [a0,a1,a2,a3] BM) h->kN P n [a0,a1,a2,a3] h K KP
theorem hx4{P:Program}{s:S}{e:CL}{n:FuncId}{fn:Func}(lv:Nat->Bool)(hm:P.follows .mixedOrders=true)(hf:P.funcs[n]? =some fn)(hb:Kz P n=true)(hc:fn.body.bind (oZ P lv fn.ntmps)=some s)(hr:Da P lv fn.results.toList=some e)(hn:decide (4<=fn.ntmps)=true):HX4 P s e n:=λ_ hG a0 a1 a2 a3 _ _ _ w=> .inl ⟨hb,Lx hm hG hf hc hr (of_decide_eq_true hn) w⟩
theorem zJ{p:Prop}(h:p:=by simp [jI]):p:=h
theorem zE{p:Prop}(h:p:=by simp(disch:=first|omega|simp only[zz];try omega;done) only[↓reduceIte,go_sem,jN]):p:=h
end Go.Ev
