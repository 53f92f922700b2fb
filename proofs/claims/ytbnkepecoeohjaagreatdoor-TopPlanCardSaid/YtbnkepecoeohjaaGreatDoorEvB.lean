/- A part of the proof. -/
import Derived.Test.YtbnkepecoeohjaaGreatDoorEvA
import Derived.Scope
import Derived.WalkMore
set_option linter.all false
namespace Go.Ev
/-! ### Expressions -/
inductive E where
 |t (n:Nat)|c (v:Value)|o1 (q:Q1) (a:E)|o2 (q:Q2) (a b:E)|o3 (q:Q3) (a b c:E)
 deriving Inhabited
def val:E->lm->H->Value
 | .t n,σ,_=>σ n
 | .c v,_,_=>v
 | .o1 q a,σ,h=>v1 q (val a σ h) h
 | .o2 q a b,σ,h=>v2 q (val a σ h) (val b σ h) h
 | .o3 q a b c,σ,h=>v3 q (val a σ h) (val b σ h) (val c σ h) h
def ZA:Q1->Bool| .ld1| .ldn _=>true|_=>false
def dep:E->Bool
 | .t _| .c _=>false
 | .o1 q a=>ZA q || dep a
 | .o2 _ a b=>dep a || dep b
 | .o3 _ a b c=>dep a || dep b || dep c
def Da(n:Nat):E->Bool
 | .t m=>m == n
 | .c _=>false
 | .o1 _ a=>Da n a
 | .o2 _ a b=>Da n a || Da n b
 | .o3 _ a b c=>Da n a || Da n b || Da n c
def kF(σ:lm)(d:Nat)(v:Value):lm:=λi=>if i=d then v else σ i
def qU(σ:lm)(d:Option Nat)(v:Value):lm:=match d with|some d=>kF σ d v|none=>σ
theorem Vk{q:Q1}(h:ZA q=false)(x:Value)(h1 h2:H):v1 q x h1=v1 q x h2:=by cases q<;>first|rfl|cases h
theorem aep(q:Q2)(x y:Value)(h1 h2:H):v2 q x y h1=v2 q x y h2:=by cases q<;>rfl
theorem aeq(q:Q3)(x y z:Value)(h1 h2:H):v3 q x y z h1=v3 q x y z h2:=by cases q<;>rfl
theorem aeX{e:E}(hd:dep e=false)(σ:lm)(h1 h2:H):val e σ h1=val e σ h2:=by
 induction e with
 |t=>rfl
 |c=>rfl
 |o1 q a ih=>simp only[dep,dB]at hd;simp only[val,ih hd.2];exact Vk hd.1 _ _ _
 |o2 q a b iha ihb=>simp only[dep,dB]at hd;simp only[val,iha hd.1,ihb hd.2];exact aep _ _ _ _ _
 |o3 q a b c iha ihb ihc=>simp only[dep,dB]at hd;simp only[val,iha hd.1.1,ihb hd.1.2,ihc hd.2];exact aeq _ _ _ _ _ _
theorem LK{e:E}{d:Nat}(hm:Da d e=false)(σ:lm)(v:Value)(h:H):val e (kF σ d v) h=val e σ h:=by
 induction e with
 |t m=>simp only[Da,beq_eq_false_iff_ne]at hm;simp [val,kF,hm]
 |c=>rfl
 |o1 q a ih=>simp only[Da]at hm;simp only[val,ih hm]
 |o2 q a b iha ihb=>simp only[Da,dB]at hm;simp only[val,iha hm.1,ihb hm.2]
 |o3 q a b c iha ihb ihc=>simp only[Da,dB]at hm;simp only[val,iha hm.1.1,ihb hm.1.2,ihc hm.2]
/-! ### Small statements -/
inductive Chk where
 |c1 (q:Q1) (a:E)|c2 (q:Q2) (a b:E)|c3 (q:Q3) (a b c:E)|cb (size:Nat) (ps:List (Nat×Nat×E))
 deriving Inhabited
def xG:Chk->lm->H->Prop
 | .c1 q a,σ,h=>s1 q (val a σ h) h
 | .c2 q a b,σ,h=>s2 q (val a σ h) (val b σ h) h
 | .c3 q a b c,σ,h=>s3 q (val a σ h) (val b σ h) (val c σ h) h
 | .cb n ps,σ,h=> ∀p∈ps,(val p.2.2 σ h).cells.size=p.2.1/\p.1+p.2.1<=n
abbrev Gs:=List (E×Bool)
def BP(gs:Gs)(σ:lm)(h:H):Bool:=gs.all λp=>Xu (val p.1 σ h) p.2
def rJ(p:Value)(n:Option Nat)(h h':H):Prop:=match p with
 | .pointer (some ⟨b,o,none⟩)=>match n with
  |none=>o<hsz h' b/\hv h' b o=hv h b o
  |some n=>o+n<=hsz h' b/\sO h' b o n=sO h b o n
 |_=>True
abbrev uw:=List (Gs×E×Option Nat)
def nS(l:uw)(σ:lm)(h h':H):Prop:= ∀p∈l,BP p.1 σ h=true->rJ (val p.2.1 σ h) p.2.2 h h'
inductive St where
 |set (d:Nat) (e:E)|chk (gs:Gs) (c:Chk)|eff (gs:Gs) (d:Option Nat) (f:F) (xs:List E) (st:uw)
 deriving Inhabited
def ZB(G:mG)(s:St)(K:lm->H->Prop)(KP:List PanicEntry->H->Prop)(σ:lm)(h:H):Prop:=match s with
 | .set d e=>K (kF σ d (val e σ h)) h
 | .chk gs c=>(BP gs σ h=true->xG c σ h)/\K σ h
 | .eff gs d f xs st=>(BP gs σ h=true->rT G f (xs.map λe=>val e σ h) h (λv h'=>nS st σ h h'/\K (qU σ d v) h') KP)/\
   (BP gs σ h=false->K (qU σ d undef) h)
def mf(G:mG)(l:List St)(K:lm->H->Prop)(KP:List PanicEntry->H->Prop)(σ:lm)(h:H):Prop:=match l with
 |[]=>K σ h
 |s::r=>ZB G s (mf G r K KP) KP σ h
theorem pY{G:mG}{K:lm->H->Prop}{KP:List PanicEntry->H->Prop}: ∀(l r:List St) (σ:lm) (h:H),mf G (l++r) K KP σ h=mf G l (mf G r K KP) KP σ h
 |[],_,_,_=>rfl
 |s::l,r,σ,h=>by
  simp only[bO,mf]
  congr 1
  funext σ' h'
  exact pY l r σ' h'
/-! ### From operations to statements -/
structure qj where
 t:Nat
 e:E
 g:List (Nat×Bool)
def find(δ:List qj)(t:Nat):Option qj:=δ.find? λp=>p.t == t
def Ou(lv:Nat->Bool)(δ:List qj)(g:List (Nat×Bool)):Operand->Option E
 | .tmp t=>if lv t then some (.t t)else match find δ t with
  |some p=>if p.g.all (g.contains ·)then some p.e else none
  |none=>none
 | .const v=>some (.c v)
 | .global n=>some (.c (.pointer (some ⟨n,0,none⟩)))
 | .func f=>some (.c (.func (.func f) #[] #[]))
def acB(lv:Nat->Bool)(δ:List qj)(g:List (Nat×Bool)):List Operand->Option (List E)
 |[]=>some []
 |x::r=>match Ou lv δ g x,acB lv δ g r with
  |some e,some l=>some (e::l)
  |_,_=>none
def Vl(lv:Nat->Bool)(δ:List qj)(g:List (Nat×Bool)):List (Nat×Nat×Operand)->Option (List (Nat×Nat×E))
 |[]=>some []
 |(o,n,x)::r=>match Ou lv δ g x,Vl lv δ g r with
  |some e,some l=>some ((o,n,e)::l)
  |_,_=>none
def AP(δ:List qj):List (Nat×Bool)->Option Gs
 |[]=>some []
 |(s,b)::r=>match find δ s,AP δ r with
  |some p,some l=>some ((p.e,b)::l)
  |_,_=>none
def nY(δ:List qj):List (Nat×Bool)->Bool
 |[]=>true
 |(s,_)::r=>(match find δ s with|some p=>decide (p.g=r)|none=>false) && nY δ r
def xH(ops:Array Oper)(δ:List qj)(o:Oper):Option (List (Nat×Bool)):=match o.guard with
 |none=>some []
 |some (j,want)=>match(ops[j]?).bind (·.dst)with
  |some s=>match find δ s with
   |some p=>some ((s,want)::p.g)
   |none=>none
  |none=>none
def agu(z:Array Value)(ps:List (Nat×Nat×E)):E:=ps.foldl (λa p=> .o2 (.put p.1 p.2.1) a p.2.2) (.c (.agg z))
def uy(lv:Nat->Bool)(δ:List qj)(g:List (Nat×Bool)):K->Option (Option Chk×E)
 | .q1 .id x=>(Ou lv δ g x).map λa=>(none,a)
 | .q1 .nilck x=>(Ou lv δ g x).map λa=>(some (.c1 .nilck a),a)
 | .q1 q x=>(Ou lv δ g x).map λa=>(some (.c1 q a),.o1 q a)
 | .q2 q x y=>match Ou lv δ g x,Ou lv δ g y with
  |some a,some b=>some (some (.c2 q a b),.o2 q a b)
  |_,_=>none
 | .q3 .pick (.tmp c) x y=>match Ou lv δ g (.tmp c),Ou lv δ ((c,true)::g) x,Ou lv δ ((c,false)::g) y with
  |some a,some b,some d=>some (some (.c3 .pick a b d),.o3 .pick a b d)
  |_,_,_=>none
 | .q3 .pick _ _ _=>none
 | .q3 q x y z=>match Ou lv δ g x,Ou lv δ g y,Ou lv δ g z with
  |some a,some b,some c=>some (some (.c3 q a b c),.o3 q a b c)
  |_,_,_=>none
 | .bld z ps=>(Vl lv δ g ps).map λl=>(some (.cb z.size l),agu z l)
 | .asg x=>(Ou lv δ g x).map λa=>(none,a)
 | .ef _ _=>none
def Aj(turns:E->Bool):List qj->List St×List qj
 |[]=>([],[])
 |p::r=>if turns p.e then(.set p.t p.e::(Aj turns r).1,⟨p.t,.t p.t,p.g⟩::(Aj turns r).2)else((Aj turns r).1,p::(Aj turns r).2)
def lay(turns:E->Bool)(δ:List qj):Option (List St×List qj):=
 if δ.all (λp=> !turns p.e || δ.all λq=> !Da p.t q.e)then some (Aj turns δ)else none
def SG(later:Nat->Bool)(δ:List qj):Option (List qj):=
 if(δ.filter λp=>later p.t).all (λp=>nY (δ.filter λp=>later p.t) p.g)then some (δ.filter λp=>later p.t)else none
def aeY(gs:Gs):Option Chk->List St
 |none=>[]
 |some c=>[.chk gs c]
def Oz(P:Program)(lv:Nat->Bool)(N:Nat)(ops:Array Oper)(δ:List qj)(later:Nat->Bool)(o:Oper)(k:K):Option (List St×List qj):=
 match o.dst with
 |none=>none
 |some d=>if lv d then
   match o.guard,lay (Da d) δ with
   |none,some (l,δ1)=>match uy lv δ1 [] k with
    |some (c,e)=>if d<N && δ1.all (λp=> !Da d p.e)then(SG later δ1).map λδ2=>(l++aeY [] c++[.set d e],δ2)else none
    |none=>none
   |_,_=>none
  else match xH ops δ o with
   |some g=>match AP δ g,uy lv δ g k with
    |some gs,some (c,e)=>if d<N && (find δ d).isNone then(SG later (⟨d,e,g⟩::δ)).map λδ2=>(aeY gs c,δ2)else none
    |_,_=>none
   |none=>none
abbrev Tau:=List (Operand×List (Nat×Bool)×Option Nat)
def Vm(lv:Nat->Bool)(δ:List qj):Tau->Option uw
 |[]=>some []
 |(x,g,n)::r=>match AP δ g,Ou lv δ g x,Vm lv δ r with
  |some gs,some e,some l=>if nY δ g then some ((gs,e,n)::l)else none
  |_,_,_=>none
def Vn(P:Program)(lv:Nat->Bool)(N:Nat)(ops:Array Oper)(δ:List qj)(later:Nat->Bool)(tau:Tau)(o:Oper)(f:F)(xs:List Operand):Option (List St×List qj):=
 match lay dep δ with
 |none=>none
 |some (l,δ1)=>match xH ops δ1 o with
  |none=>none
  |some g=>match AP δ1 g,acB lv δ1 g xs,Vm lv δ1 tau with
   |some gs,some es,some st=>match o.dst with
    |none=>(SG later δ1).map λδ2=>(l++[.eff gs none f es st],δ2)
    |some d=>if lv d then
      if g.isEmpty && decide (d<N) && δ1.all (λp=> !Da d p.e)then(SG later δ1).map λδ2=>(l++[.eff gs (some d) f es st],δ2)else none
     else if d<N && (find δ1 d).isNone && δ1.all (λp=> !Da d p.e)then(SG later (⟨d,.t d,g⟩::δ1)).map λδ2=>(l++[.eff gs (some d) f es st],δ2)else none
   |_,_,_=>none
/-! ### The tie between a frame and the small statements -/
def gh(a:Act)(g:List (Nat×Bool)):Bool:=g.all λp=>Xu (a.tmps.getD p.1 undef) p.2
abbrev DS:=OfNat (List Deferred) 77
abbrev DS.d [DS]:List Deferred:=OfNat.ofNat 77
structure uL [DS] (lv:Nat->Bool) (N:Nat) (a:Act) (σ:lm) (h:H) (δ:List qj):Prop where
 lvs: ∀i,lv i=true->a.tmps.getD i undef=σ i
 sz:a.tmps.size=N
 df:a.defers=DS.d
 pend: ∀t p,find δ t=some p->gh a p.g=true->a.tmps.getD t undef=val p.e σ h
 skip: ∀t p,find δ t=some p->gh a p.g=false->a.tmps.getD t undef=undef
 chain: ∀t p,find δ t=some p->nY δ p.g=true
 nlv: ∀t p,find δ t=some p->lv t=false
 nd:(δ.map (·.t)).Nodup
section
set_option linter.unusedVariables false
variable {P:Program} {lv:Nat->Bool} {N:Nat} {ops:Array Oper} {δ:List qj} {a:Act} {σ:lm} {h:H} {o:Oper} {g:List (Nat×Bool)} {gs:Gs} {e:E} {x:Operand}
theorem zL [DS](R:uL lv N a σ h δ): ∀(g:List (Nat×Bool)) (gs:Gs),nY δ g=true->AP δ g=some gs->BP gs σ h=gh a g
 |[],gs,_,hg=>by cases hg;rfl
 |(s,b)::r,gs,hc,hg=>by
  simp only[nY,bA]at hc
  simp only[AP]at hg
  cases hf:find δ s with
  |none=>simp [hf]at hg
  |some p=>
   cases hr:AP δ r with
   |none=>simp [hf,hr]at hg
   |some l=>
    simp only[hf,hr,bQ]at hg
    subst hg
    have hp:p.g=r:=by simpa [hf]using hc.1
    have ih:=zL R r l hc.2 hr
    show(Xu (val p.e σ h) b && BP l σ h)=(Xu (a.tmps.getD s undef) b && gh a r)
    rw[ih]
    cases hb:gh a r with
    |false=>simp
    |true=>rw[R.pend s p hf (by rw[hp];exact hb)]
theorem rD [DS](R:uL lv N a σ h δ)(hg:gh a g=true)(hx:Ou lv δ g x=some e):a.eval x=val e σ h:=by
 cases x with
 |tmp t=>
  simp only[Ou]at hx
  split at hx
  ·rename_i hl;cases hx;exact R.lvs t hl
  ·split at hx<;>try (cases hx;done)
   rename_i p hf
   split at hx<;>cases hx
   rename_i hall
   refine R.pend t p hf ?_
   simp only[gh,bU]at hg ⊢
   intro q hq
   exact hg q (by have:=(bU.1 hall) q hq;simpa using this)
 |const v=>cases hx;rfl
 |global n=>cases hx;rfl
 |func f=>cases hx;rfl
theorem Vo [DS](R:uL lv N a σ h δ)(hg:gh a g=true): ∀(xs:List Operand) (es:List E),acB lv δ g xs=some es->xs.map a.eval=es.map λe=>val e σ h
 |[],es,hx=>by cases hx;rfl
 |x::r,es,hx=>by
  simp only[acB]at hx
  split at hx<;>cases hx
  rename_i e l h1 h2
  simp [rD R hg h1,Vo R hg r l h2]
theorem OA [DS](R:uL lv N a σ h δ)(hg:gh a g=true): ∀(ps:List (Nat×Nat×Operand)) (es:List (Nat×Nat×E)),Vl lv δ g ps=some es->
  ps.map (λp=>(p.1,p.2.1,a.eval p.2.2))=es.map λp=>(p.1,p.2.1,val p.2.2 σ h)
 |[],es,hx=>by cases hx;rfl
 |(o,n,x)::r,es,hx=>by
  simp only[Vl]at hx
  split at hx<;>cases hx
  rename_i e l h1 h2
  simp [rD R hg h1,OA R hg r l h2]
theorem OB: ∀(es:List (Nat×Nat×E)) (z:Array Value) (e0:E),val e0 σ h= .agg z->
  val (es.foldl (λa p=> .o2 (.put p.1 p.2.1) a p.2.2) e0) σ h= .agg ((es.map λp=>(p.1,p.2.1,val p.2.2 σ h)).foldl (λcs p=>yK cs p.1 p.2.2) z)
 |[],z,e0,h0=>h0
 |p::r,z,e0,h0=>by
  simp only[eP,bF]
  exact OB r (yK z p.1 (val p.2.2 σ h)) _ (by simp only[val,h0,v2])
def OC(c:Option Chk)(σ:lm)(h:H):Prop:=match c with|none=>True|some c=>xG c σ h
def Vp:K->Option (Operand×Option Nat)
 | .q1 .ld1 x=>some (x,none)
 | .q1 (.ldn n) x=>some (x,some n)
 |_=>none
def BQ(k:K)(a:Act)(h h':H):Prop:=match Vp k with|none=>True|some (x,n)=>rJ (a.eval x) n h h'
theorem FW{p:Value}{n:Option Nat}{h:H}{q:Q1}(hq:q=match n with|none=> .ld1|some n=> .ldn n)(hs:s1 q p h):rJ p n h h:=by
 subst hq
 unfold rJ
 split<;>try trivial
 cases n<;>simp_all [s1]
theorem FX [DS]{k:K}{c:Option Chk}(R:uL lv N a σ h δ)(hg:gh a g=true)(hq:uy lv δ g k=some (c,e))(hc:OC c σ h):BQ k a h h:=by
 unfold BQ Vp
 split
 ·trivial
 ·rename_i x' n hk
  split at hk<;>cases hk
  ·simp only[uy,aU,bS]at hq
   obtain⟨e',he,rfl,rfl⟩:=hq
   simp only[OC,xG]at hc
   rw[<-rD R hg he]at hc
   exact FW rfl hc
  ·simp only[uy,aU,bS]at hq
   obtain⟨e',he,rfl,rfl⟩:=hq
   simp only[OC,xG]at hc
   rw[<-rD R hg he]at hc
   exact FW rfl hc
theorem agv{q:Q1}(h:ZA q=false){x:Value}{h1 h2:H}(hs:s1 q x h1):s1 q x h2:=by cases q<;>first|exact hs|cases h
theorem agw{q:Q2}{x y:Value}{h1 h2:H}(hs:s2 q x y h1):s2 q x y h2:=by cases q<;>exact hs
theorem agx{q:Q3}{x y z:Value}{h1 h2:H}(hs:s3 q x y z h1):s3 q x y z h2:=by cases q<;>exact hs
theorem JU [DS](R:uL lv N a σ h δ)(hg:gh a g=true){k:K}{c:Option Chk}(hs:pR P o k)(hq:uy lv δ g k=some (c,e))(hc:OC c σ h)(w:World)(hw:BQ k a h w.heap):
  (execOp a.eval o).run P w= .ok (.value (val e σ h)) w:=by
 cases k with
 |ef f xs=>cases hq
 |asg x=>
  simp only[uy,aU,bS]at hq
  obtain⟨e',he,rfl,rfl⟩:=hq
  rw[<-rD R hg he];exact hs a.eval w
 |bld z ps=>
  simp only[uy,aU,bS]at hq
  obtain⟨es,he,rfl,rfl⟩:=hq
  have hm:=OA R hg ps es he
  have hc': ∀p∈es.map (λp=>(p.1,p.2.1,val p.2.2 σ h)),p.2.2.cells.size=p.2.1/\p.1+p.2.1<=z.size:=by
   intro p hp;obtain⟨q,hq,rfl⟩:=bq.1 hp;exact hc q hq
  rw[<-hm]at hc'
  have:=hs a.eval w (λp hp=>hc' _ (bq.2 ⟨p,hp,rfl⟩))
  rw[this,agu,OB es z _ rfl,<-hm,List.foldl_map]
 |q1 q x=>
  have gen: ∀a',Ou lv δ g x=some a'->s1 q (val a' σ h) h->(execOp a.eval o).run P w= .ok (.value (v1 q (val a' σ h) h)) w:=by
   intro a' he hc
   have e1:=rD R hg he
   rw[<-e1]at hc ⊢
   by_cases hd:ZA q=false
   ·rw[Vk hd _ h w.heap];exact hs a.eval w (agv hd hc)
   ·have key:s1 q (a.eval x) w.heap/\v1 q (a.eval x) w.heap=v1 q (a.eval x) h:=by
     cases q<;>simp only[ZA,not_true_eq_false]at hd
     all_goals
      simp only[BQ,Vp]at hw
      simp only[s1]at hc
      split at hc<;>try (exact hc.elim)
      rename_i b o' hx
      rw[hx]at hw ⊢
      simp only[rJ]at hw
      simp only[s1,v1]
      exact⟨hw.1,by rw[hw.2]⟩
    rw[<-key.2];exact hs a.eval w key.1
  cases q<;>simp only[uy,aU,bS]at hq<;>obtain⟨a',he,rfl,rfl⟩:=hq
  case id=>exact gen a' he trivial
  all_goals exact gen a' he hc
 |q2 q x y=>
  simp only[uy]at hq
  split at hq<;>cases hq
  rename_i a1 b1 h1 h2
  have e1:=rD R hg h1;have e2:=rD R hg h2
  simp only[OC,xG]at hc
  simp only[val]
  rw[<-e1,<-e2]at hc ⊢
  rw[aep q _ _ h w.heap]
  exact hs a.eval w (agw hc)
 |q3 q x y z=>
  have gen:q≠ .pick->(execOp a.eval o).run P w= .ok (.value (val e σ h)) w:=by
   intro hne
   cases q<;>simp only[ne_eq,not_true_eq_false]at hne<;>simp only[uy]at hq<;>split at hq<;>cases hq
   all_goals
    rename_i a1 b1 c1 h1 h2 h3
    have e1:=rD R hg h1;have e2:=rD R hg h2;have e3:=rD R hg h3
    simp only[OC,xG]at hc
    simp only[val]
    rw[<-e1,<-e2,<-e3]at hc ⊢
    rw[aeq _ _ _ _ h w.heap]
    exact hs a.eval w (agx hc)
  cases q with
  |pick=>
   cases x<;>simp only[uy]at hq<;>try (cases hq;done)
   rename_i c
   split at hq<;>cases hq
   rename_i a1 b1 c1 h1 h2 h3
   have e1:=rD R hg h1
   simp only[OC,xG]at hc
   rw[<-e1]at hc
   have:=hs a.eval w hc
   rw[this]
   simp only[val,v3]
   rw[<-e1]
   simp only[s3]at hc
   have key: ∀b,a.eval (.tmp c)= .bool b->gh a ((c,b)::g)=true:=by
    intro b hb
    simp only[Act.eval]at hb
    simp only[gh,jh,bA]
    exact⟨by rw[hb];simp [Xu],hg⟩
   cases hv:a.eval (.tmp c)<;>simp [hv,qw]at hc
   rename_i b
   cases b
   ·simp only[tb,aV,bZ];rw[rD R (key false hv) h3]
   ·simp only[tb,dx];rw[rD R (key true hv) h2]
  |_=>exact gen (by simp)
theorem OD [DS](R:uL lv N a σ h δ): ∀(tau:Tau) (st:uw),Vm lv δ tau=some st-> ∀h',nS st σ h h'-> ∀p∈tau,gh a p.2.1=true->rJ (a.eval p.1) p.2.2 h h'
 |[],st,_,h',_,p,hp=>by cases hp
 |(x,g,n)::r,st,hs,h',hst,p,hp=>by
  simp only[Vm]at hs
  split at hs<;>try (cases hs;done)
  rename_i gs e l h1 h2 h3
  split at hs<;>cases hs
  rename_i hch
  rcases bn.1 hp with rfl|hp
  ·intro hgh
   have:=hst (gs,e,n) (by simp) (by rw[zL R g gs hch h1];exact hgh)
   rw[rD R hgh h2];exact this
  ·exact OD R r l h3 h' (λq hq=>hst q (by simp [hq])) p hp
end
end Go.Ev
namespace Go.Ev
section
variable {P:Program} {G:mG} {lv:Nat->Bool} {N:Nat} {ops:Array Oper} {δ δ1 δ2:List qj} {a:Act} {σ:lm} {h:H} {o:Oper} {g:List (Nat×Bool)} {gs:Gs} {e:E} {x:Operand} {later:Nat->Bool}
 {K:lm->H->Prop} {KP:List PanicEntry->H->Prop} {l:List St}
theorem yG{t:Nat}{p:qj}(hf:find δ t=some p):p∈δ/\p.t=t:=by
 unfold find at hf
 exact⟨jy hf,by simpa using List.find?_some hf⟩
theorem OE(t:Nat):find (δ.filter λp=>later p.t) t=if later t then find δ t else none:=by
 unfold find
 induction δ with
 |nil=>simp
 |cons p r ih=>
  simp only[eG]
  by_cases hp:p.t=t
  ·subst hp
   cases hl:later p.t with
   |true=>simp
   |false=>simp only[aV,bZ];rw[ih];simp [hl]
  ·have hb:(p.t == t)=false:=by simpa using hp
   cases hl:later p.t with
   |true=>simp only[dx,jM,hb];exact ih
   |false=>simp only[aV,bZ,jM,hb];exact ih
theorem wJ{p:qj}(hp:p∈δ): ∃q,find δ p.t=some q:=by
 unfold find
 cases hf:δ.find? (λq=>q.t == p.t)with
 |some q=>exact⟨q,rfl⟩
 |none=>exact absurd (List.find?_eq_none.1 hf p hp) (by simp)
theorem wK [DS](ht:SG later δ=some δ2)(R:uL lv N a σ h δ):uL lv N a σ h δ2:=by
 unfold SG at ht
 split at ht<;>cases ht
 rename_i hall
 have key: ∀t p,find (δ.filter λp=>later p.t) t=some p->find δ t=some p:=by
  intro t p hf;rw[OE]at hf;split at hf
  ·exact hf
  ·cases hf
 exact⟨R.lvs,R.sz,R.df,λt p hf=>R.pend t p (key t p hf),λt p hf=>R.skip t p (key t p hf),
  λt p hf=>(bU.1 hall) p (yG hf).1,λt p hf=>R.nlv t p (key t p hf),(List.filter_sublist.map _).nodup R.nd⟩
theorem oI{d i:Nat}{v:Value}(hne:i≠d):(a.put (some d) v).tmps.getD i undef=a.tmps.getD i undef:=by
 simp [Act.put,dA,eH (iB hne)]
theorem yH{d:Nat}{v:Value}(hd:d<a.tmps.size):(a.put (some d) v).tmps.getD d undef=v:=by
 simp [Act.put,dA,hd]
theorem xI: ∀(g:List (Nat×Bool)),nY δ g=true-> ∀q∈g,(find δ q.1).isSome=true
 |[],_,q,hq=>by cases hq
 |(s,b)::r,hc,q,hq=>by
  simp only[nY,bA]at hc
  rcases bn.1 hq with rfl|hq
  ·cases hf:find δ s with
   |none=>simp [hf]at hc
   |some p=>simp
  ·exact xI r hc.2 q hq
theorem SH{d:Nat}{v:Value}(hd: ∀q∈g,q.1≠d):gh (a.put (some d) v) g=gh a g:=by
 unfold gh
 apply dm.2
 simp only[bU]
 exact⟨λH q hq=>by have:=H q hq;rwa [oI (hd q hq)]at this,λH q hq=>by rw[oI (hd q hq)];exact H q hq⟩
theorem ZC [DS]{d:Nat}{v:Value}(hl:lv d=true)(hd:d<N)(hm:δ.all (λp=> !Da d p.e)=true)(R:uL lv N a σ h δ):uL lv N (a.put (some d) v) (kF σ d v) h δ:=by
 have hnd: ∀t p,find δ t=some p->t≠d:=λt p hf he=>by have:=R.nlv t p hf;rw[he,hl]at this;cases this
 have hg: ∀t p,find δ t=some p->gh (a.put (some d) v) p.g=gh a p.g:=λt p hf=>SH λq hq he=>by
  obtain⟨p',hp'⟩:=eQ.1 (xI p.g (R.chain t p hf) q hq)
  exact hnd _ _ hp' he
 refine⟨λi hi=> ?_,by simp [Act.put,R.sz],by simp [Act.put,R.df],λt p hf hgh=> ?_,λt p hf hgh=> ?_,R.chain,R.nlv,R.nd⟩
 ·by_cases he:i=d
  ·subst he;rw[yH (by rw[R.sz];exact hd)];simp [kF]
  ·rw[oI he,R.lvs i hi];simp [kF,he]
 ·rw[oI (hnd t p hf),R.pend t p hf (by rw[<-hg t p hf];exact hgh)]
  exact(LK (by have:=(bU.1 hm) p (yG hf).1;simpa using this) σ v h).symm
 ·rw[oI (hnd t p hf)];exact R.skip t p hf (by rw[<-hg t p hf];exact hgh)
theorem rV{p:qj}{t:Nat}(hne:p.t≠t):find (p::δ) t=find δ t:=by
 unfold find;exact List.find?_cons_of_neg (by simpa using hne)
theorem xJ{p:qj}:find (p::δ) p.t=some p:=by
 unfold find;exact List.find?_cons_of_pos (by simp)
theorem AQ{p:qj}(hf:find δ p.t=none): ∀(g:List (Nat×Bool)),nY δ g=true->nY (p::δ) g=true
 |[],_=>rfl
 |(s,b)::r,hc=>by
  have hs:(find δ s).isSome=true:=xI _ hc (s,b) (by simp)
  have hne:p.t≠s:=λhe=>by rw[<-he,hf]at hs;cases hs
  simp only[nY,bA]at hc ⊢
  rw[rV hne]
  exact⟨hc.1,AQ hf r hc.2⟩
theorem LM [DS] {d:Nat} {v:Value} (hl:lv d=false) (hd:d<N) (hn:find δ d=none) (hc:nY δ g=true) (R:uL lv N a σ h δ)
  (hv:gh a g=true->v=val e σ h) (hu:gh a g=false->v=undef):uL lv N (a.put (some d) v) σ h (⟨d,e,g⟩::δ):=by
 have hnd: ∀t p,find δ t=some p->t≠d:=λt p hf he=>by rw[he,hn]at hf;cases hf
 have hch: ∀(g:List (Nat×Bool)),nY δ g=true->gh (a.put (some d) v) g=gh a g:=λg hc=>SH λq hq he=>by
  obtain⟨p',hp'⟩:=eQ.1 (xI g hc q hq)
  exact hnd _ _ hp' he
 refine⟨λi hi=> ?_,by simp [Act.put,R.sz],by simp [Act.put,R.df],λt p hf hgh=> ?_,λt p hf hgh=> ?_,λt p hf=> ?_,λt p hf=> ?_,?_⟩
 ·rw[oI (λhe=>by rw[he,hl]at hi;cases hi),R.lvs i hi]
 ·by_cases ht:d=t
  ·subst ht
   have:=hf.symm.trans (xJ (p:=⟨d,e,g⟩) (δ:=δ));cases this
   rw[yH (by rw[R.sz];exact hd)];exact hv (by rw[<-hch g hc];exact hgh)
  ·rw[rV (p:=⟨d,e,g⟩) ht]at hf
   rw[oI (iB ht)];exact R.pend t p hf (by rw[<-hch _ (R.chain t p hf)];exact hgh)
 ·by_cases ht:d=t
  ·subst ht
   have:=hf.symm.trans (xJ (p:=⟨d,e,g⟩) (δ:=δ));cases this
   rw[yH (by rw[R.sz];exact hd)];exact hu (by rw[<-hch g hc];exact hgh)
  ·rw[rV (p:=⟨d,e,g⟩) ht]at hf
   rw[oI (iB ht)];exact R.skip t p hf (by rw[<-hch _ (R.chain t p hf)];exact hgh)
 ·by_cases ht:d=t
  ·subst ht
   have:=hf.symm.trans (xJ (p:=⟨d,e,g⟩) (δ:=δ));cases this
   exact AQ hn _ hc
  ·rw[rV (p:=⟨d,e,g⟩) ht]at hf
   exact AQ hn _ (R.chain t p hf)
 ·by_cases ht:d=t
  ·subst ht;exact hl
  ·rw[rV (p:=⟨d,e,g⟩) ht]at hf;exact R.nlv t p hf
 ·simp only[bF,iT]
  refine⟨λhm=> ?_,R.nd⟩
  obtain⟨p,hp,he⟩:=bq.1 hm
  obtain⟨q,hq⟩:=wJ hp
  rw[he,hn]at hq;cases hq
theorem vk(turns:E->Bool)(t:Nat):find (Aj turns δ).2 t=(find δ t).map λp=>if turns p.e then⟨p.t,.t p.t,p.g⟩else p:=by
 unfold find
 induction δ with
 |nil=>rfl
 |cons p r ih=>
  simp only[Aj]
  by_cases hp:p.t=t
  ·subst hp
   cases ht:turns p.e<;>simp [ht]
  ·have hb:(p.t == t)=false:=by simpa using hp
   cases ht:turns p.e<;>simp only[aV,dx,bZ,jM,hb,ih]
theorem AR(turns:E->Bool): ∀(g:List (Nat×Bool)),nY δ g=true->nY (Aj turns δ).2 g=true
 |[],_=>rfl
 |(s,b)::r,hc=>by
  simp only[nY,bA]at hc ⊢
  refine⟨?_,AR turns r hc.2⟩
  rw[vk]
  cases hf:find δ s with
  |none=>simp [hf]at hc
  |some p=>
   have:=hc.1
   simp only[hf]at this
   simp only[bH]
   split<;>exact this
theorem ZE(turns:E->Bool):(Aj turns δ).2.map (·.t)=δ.map (·.t):=by
 induction δ with
 |nil=>rfl
 |cons p r ih=>simp only[Aj];split<;>simp [ih]
theorem JV [DS](turns:E->Bool)(hlay:lay turns δ=some (l,δ1))(R:uL lv N a σ h δ)(Hw:mf G l K KP σ h): ∃σ',uL lv N a σ' h δ1/\K σ' h:=by
 unfold lay at hlay
 split at hlay<;>try (cases hlay;done)
 rename_i hall
 have e0:=bu hlay
 have e1:(Aj turns δ).1=l:=by rw[e0]
 have e2:(Aj turns δ).2=δ1:=by rw[e0]
 subst e1 e2
 have hT: ∀p∈δ,turns p.e=true-> ∀q∈δ,Da p.t q.e=false:=λp hp ht q hq=>by
  have:=(bU.1 hall) p hp
  simp only[ht,ji,jW,bU]at this
  simpa using this q hq
 have hlvδ: ∀p∈δ,lv p.t=false:=λp hp=>by obtain⟨q,hq'⟩:=wJ hp;exact R.nlv _ _ hq'
 have main: ∀(r:List qj),(∀p∈r,p∈δ)->(r.map (·.t)).Nodup-> ∀(σ1:lm) (K:lm->H->Prop),(∀q∈δ,val q.e σ1 h=val q.e σ h)->(∀i,lv i=true->σ1 i=σ i)->mf G (Aj turns r).1 K KP σ1 h->
   ∃σ',K σ' h/\(∀q∈δ,val q.e σ' h=val q.e σ h)/\(∀i,lv i=true->σ' i=σ i)/\(∀i,(∀p∈r,p.t≠i)->σ' i=σ1 i)/\(∀p∈r,turns p.e=true->σ' p.t=val p.e σ h):=by
  intro r
  induction r with
  |nil=>intro _ _ σ1 K hq hi H;exact⟨σ1,H,hq,hi,λ_ _=>rfl,λp hp=>by cases hp⟩
  |cons p r ih=>
   intro hr hnd σ1 K hq hi H
   simp only[bF,iT]at hnd
   simp only[Aj]at H
   have hpδ:=hr p (by simp)
   have hpr: ∀q∈r,q.t≠p.t:=λq hq he=>hnd.1 (bq.2 ⟨q,hq,he⟩)
   split at H
   ·rename_i ht
    simp only[mf,ZB]at H
    obtain⟨σ',h1,h2,h3,h4,h5⟩:=ih (λq hq=>hr q (by simp [hq])) hnd.2 _ K (λq hqδ=>by rw[LK (hT p hpδ ht q hqδ)];exact hq q hqδ) (λi hl=>by
     have:i≠p.t:=λhe=>by rw[he,hlvδ p hpδ]at hl;cases hl
     simp [kF,this,hi i hl]) H
    refine⟨σ',h1,h2,h3,λi hn=> ?_,λq hq' ht'=> ?_⟩
    ·rw[h4 i (λq hq=>hn q (by simp [hq]))]
     have:i≠p.t:=λhe=>hn p (by simp) he.symm
     simp [kF,this]
    ·rcases bn.1 hq' with rfl|hq'
     ·rw[h4 _ hpr];simp [kF,hq q hpδ]
     ·exact h5 q hq' ht'
   ·rename_i ht
    obtain⟨σ',h1,h2,h3,h4,h5⟩:=ih (λq hq=>hr q (by simp [hq])) hnd.2 σ1 K hq hi H
    refine⟨σ',h1,h2,h3,λi hn=>h4 i (λq hq=>hn q (by simp [hq])),λq hq' ht'=> ?_⟩
    rcases bn.1 hq' with rfl|hq'
    ·exact absurd ht' ht
    ·exact h5 q hq' ht'
 obtain⟨σ',h1,h2,h3,_,h5⟩:=main δ (λ_ h=>h) R.nd σ K (λ_ _=>rfl) (λ_ _=>rfl) Hw
 refine⟨σ',⟨λi hi=>by rw[R.lvs i hi,h3 i hi],R.sz,R.df,λt p hf hgh=> ?_,λt p hf hgh=> ?_,λt p hf=> ?_,λt p hf=> ?_,?_⟩,h1⟩
 ·rw[vk]at hf
  obtain⟨q,hq,hpq⟩:=aU.1 hf
  have hm:=yG hq
  split at hpq
  ·rename_i ht;subst hpq
   rw[R.pend t q hq hgh];simp only[val];rw[h5 q hm.1 ht]
  ·subst hpq;rw[R.pend t q hq hgh,h2 q hm.1]
 ·rw[vk]at hf
  obtain⟨q,hq,hpq⟩:=aU.1 hf
  split at hpq<;>subst hpq<;>exact R.skip t q hq hgh
 ·rw[vk]at hf
  obtain⟨q,hq,hpq⟩:=aU.1 hf
  have:p.g=q.g:=by split at hpq<;>subst hpq<;>rfl
  rw[this];exact AR turns _ (R.chain t q hq)
 ·rw[vk]at hf
  obtain⟨q,hq,_⟩:=aU.1 hf
  exact R.nlv t q hq
 ·rw[ZE];exact R.nd
theorem AU [DS](R:uL lv N a σ h δ)(hg:xH ops δ o=some g):nY δ g=true/\Region.wanted o (yielded ops a.tmps)=gh a g:=by
 unfold xH at hg
 unfold Region.wanted
 split at hg
 ·rename_i h0;cases hg;rw[h0];exact⟨rfl,rfl⟩
 ·rename_i j want h0
  split at hg<;>try (cases hg;done)
  rename_i s hs
  split at hg<;>cases hg
  rename_i p hf
  refine⟨?_,?_⟩
  ·simp only[nY,hf,decide_true,fu];exact R.chain s p hf
  ·rw[h0]
   show(yielded ops a.tmps j == some want)=(Xu (a.tmps.getD s undef) want && gh a p.g)
   have hy:(yielded ops a.tmps j == some want)=Xu (a.tmps.getD s undef) want:=by
    unfold yielded
    rw[hs]
    simp only[eX,dA]
    cases hv:a.tmps[s]? with
    |none=>simp [undef,Xu]
    |some v=>cases v<;>simp [Xu]
   rw[hy]
   cases hgh:gh a p.g with
   |true=>simp
   |false=>rw[R.skip s p hf hgh];simp [undef,Xu]
theorem FY{c:Option Chk}(Hw:mf G (aeY gs c) K KP σ h):(BP gs σ h=true->OC c σ h)/\K σ h:=by
 cases c with
 |none=>exact⟨λ_=>trivial,Hw⟩
 |some c=>exact Hw
theorem yI [DS]{k:Go.Ev.K}{l:List St}(hs:pR P o k)(hc:Oz P lv N ops δ later o k=some (l,δ2))(R:uL lv N a σ h δ)(Hw:mf G l K KP σ h):
  ∃v σ',(Region.wanted o (yielded ops a.tmps)=true->BQ k a h h/\ ∀w:World,BQ k a h w.heap->(execOp a.eval o).run P w= .ok (.value v) w)/\
   (Region.wanted o (yielded ops a.tmps)=false->v=undef)/\uL lv N (a.put o.dst v) σ' h δ2/\K σ' h:=by
 unfold Oz at hc
 split at hc<;>try (cases hc;done)
 rename_i d hd
 split at hc
 ·rename_i hl
  split at hc<;>try (cases hc;done)
  rename_i l1 δ1 hgu hlay
  split at hc<;>try (cases hc;done)
  rename_i c e hq
  split at hc<;>try (cases hc;done)
  rename_i hcond
  simp only[bA,bf]at hcond
  obtain⟨δ3,htr,he⟩:=aU.1 hc
  simp only[bS]at he
  obtain⟨rfl,rfl⟩:=he
  rw[bB,pY]at Hw
  obtain⟨σ1,R1,Hw⟩:=JV _ hlay R Hw
  rw[pY]at Hw
  obtain⟨h1,h2⟩:=FY Hw
  have hw:Region.wanted o (yielded ops a.tmps)=true:=by unfold Region.wanted;rw[hgu]
  refine⟨val e σ1 h,kF σ1 d (val e σ1 h),λ_=>⟨FX R1 rfl hq (h1 rfl),λw hw'=>JU R1 rfl hs hq (h1 rfl) w hw'⟩,λhf=>(by rw[hw]at hf;cases hf),?_,h2⟩
  rw[hd]
  exact wK htr (ZC hl hcond.1 hcond.2 R1)
 ·rename_i hl
  split at hc<;>try (cases hc;done)
  rename_i g hg
  split at hc<;>try (cases hc;done)
  rename_i gs c e hgt hq
  split at hc<;>try (cases hc;done)
  rename_i hcond
  simp only[bA,bf,jA]at hcond
  obtain⟨δ3,htr,he⟩:=aU.1 hc
  simp only[bS]at he
  obtain⟨rfl,rfl⟩:=he
  obtain⟨hch,hwant⟩:=AU R hg
  obtain⟨h1,h2⟩:=FY Hw
  have hgs:=zL R g gs hch hgt
  have hl':lv d=false:=by simpa using hl
  cases hgh:gh a g with
  |true=>
   refine⟨val e σ h,σ,λ_=>⟨FX R hgh hq (h1 (by rw[hgs,hgh])),λw hw'=>JU R hgh hs hq (h1 (by rw[hgs,hgh])) w hw'⟩,λhf=>(by rw[hwant,hgh]at hf;cases hf),?_,h2⟩
   rw[hd]
   exact wK htr (LM hl' hcond.1 hcond.2 hch R (λ_=>rfl) (λhf=>by rw[hgh]at hf;cases hf))
  |false=>
   refine⟨undef,σ,λhf=>(by rw[hwant,hgh]at hf;cases hf),λ_=>rfl,?_,h2⟩
   rw[hd]
   exact wK htr (LM hl' hcond.1 hcond.2 hch R (λhf=>by rw[hgh]at hf;cases hf) (λ_=>rfl))
theorem ZF{turns:E->Bool}(hlay:lay turns δ=some (l,δ1)):(Aj turns δ).2=δ1:=by
 unfold lay at hlay
 split at hlay<;>try (cases hlay;done)
 have e0:=bu hlay
 rw[e0]
theorem acC(hlay:lay dep δ=some (l,δ1)): ∀p∈δ1,dep p.e=false:=by
 rw[<-ZF hlay]
 clear hlay
 induction δ with
 |nil=>intro p hp;cases hp
 |cons q r ih=>
  intro p hp
  simp only[Aj]at hp
  split at hp
  ·rcases bn.1 hp with rfl|hp
   ·rfl
   ·exact ih p hp
  ·rename_i hq
   rcases bn.1 hp with rfl|hp
   ·simpa using hq
   ·exact ih p hp
theorem Xq [DS]{turns:E->Bool}(hlay:lay turns δ=some (l,δ1))(R:uL lv N a σ h δ): ∀t p,find δ1 t=some p->nY δ1 p.g=true:=by
 rw[<-ZF hlay]
 intro t p hf
 rw[vk]at hf
 obtain⟨q,hq,hpq⟩:=aU.1 hf
 have:p.g=q.g:=by split at hpq<;>subst hpq<;>rfl
 rw[this];exact AR turns _ (R.chain t q hq)
theorem OG(hc: ∀t p,find δ t=some p->nY δ p.g=true)(hg:xH ops δ o=some g):nY δ g=true:=by
 unfold xH at hg
 split at hg
 ·cases hg;rfl
 ·split at hg<;>try (cases hg;done)
  split at hg<;>cases hg
  rename_i p hf
  simp only[nY,hf,decide_true,fu];exact hc _ p hf
theorem ZG [DS]{h':Go.Ev.H}(hd: ∀p∈δ,dep p.e=false)(R:uL lv N a σ h δ):uL lv N a σ h' δ:=
 ⟨R.lvs,R.sz,R.df,λt p hf hgh=>by rw[R.pend t p hf hgh];exact aeX (hd p (yG hf).1) σ h h',R.skip,R.chain,R.nlv,R.nd⟩
theorem acD [DS]{d:Nat}{v:Value}(hl:lv d=false)(hm:δ.all (λp=> !Da d p.e)=true)(R:uL lv N a σ h δ):uL lv N a (kF σ d v) h δ:=
 ⟨λi hi=>by
  have:i≠d:=λhe=>by rw[he,hl]at hi;cases hi
  simp [kF,this,R.lvs i hi],R.sz,R.df,λt p hf hgh=>by
  rw[R.pend t p hf hgh]
  exact(LK (by have:=(bU.1 hm) p (yG hf).1;simpa using this) σ v h).symm,R.skip,R.chain,R.nlv,R.nd⟩
theorem En [DS] {f:F} {xs:List Operand} {l:List St} {tau:Tau} {w:World} {next:Act->World->Prop} {Q:Exit->Act->World->Prop}
  (hG:nz P G) (hs:pR P o (.ef f xs)) (hc:Vn P lv N ops δ later tau o f xs=some (l,δ2)) (R:uL lv N a σ h δ) (Hw:mf G l K KP σ h) (hh:w.heap=h)
  (hn: ∀v w' σ',oZ w w'->uL lv N (a.put o.dst v) σ' w'.heap δ2->(∀p∈tau,gh a p.2.1=true->w'=w\/rJ (a.eval p.1) p.2.2 h w'.heap)->K σ' w'.heap->next (a.put o.dst v) w')
  (hp: ∀c w',oZ w w'->KP c w'.heap->Q (.panic c) a w'):
  if Region.wanted o (yielded ops a.tmps)then o.wp P a w next Q else next (a.put o.dst undef) w:=by
 unfold Vn at hc
 split at hc<;>try (cases hc;done)
 rename_i l0 δ1 hlay
 split at hc<;>try (cases hc;done)
 rename_i g hg
 split at hc<;>try (cases hc;done)
 rename_i gs es st hgt hes hst
 have hch:nY δ1 g=true:=by
  exact OG (Xq hlay R) hg
 -- all three arms: l = l0 ++ [.eff gs o.dst f es st], and the tie behind it
 have fin:l=l0++[.eff gs o.dst f es st]/\ ∀(σ1:lm) (h':Go.Ev.H) (v:Value),uL lv N a σ1 h' δ1->(gh a g=false->v=undef)->uL lv N (a.put o.dst v) (qU σ1 o.dst v) h' δ2:=by
  split at hc
  ·rename_i hd
   obtain⟨δ3,htr,he⟩:=aU.1 hc
   simp only[bS]at he
   obtain⟨rfl,rfl⟩:=he
   rw[hd]
   exact⟨rfl,λσ1 h' v R1 _=>wK htr R1⟩
  ·rename_i d hd
   split at hc
   ·rename_i hl
    split at hc<;>try (cases hc;done)
    rename_i hcond
    simp only[bA,bf]at hcond
    obtain⟨δ3,htr,he⟩:=aU.1 hc
    simp only[bS]at he
    obtain⟨rfl,rfl⟩:=he
    rw[hd]
    exact⟨rfl,λσ1 h' v R1 _=>wK htr (ZC hl hcond.1.2 hcond.2 R1)⟩
   ·rename_i hl
    split at hc<;>try (cases hc;done)
    rename_i hcond
    simp only[bA,bf,jA]at hcond
    obtain⟨δ3,htr,he⟩:=aU.1 hc
    simp only[bS]at he
    obtain⟨rfl,rfl⟩:=he
    rw[hd]
    refine⟨rfl,λσ1 h' v R1 hu=>wK htr ?_⟩
    exact LM (by simpa using hl) hcond.1.1 hcond.1.2 hch (acD (by simpa using hl) hcond.2 R1) (λ_=>by simp [val,qU,kF]) hu
 obtain⟨rfl,fin⟩:=fin
 rw[pY]at Hw
 obtain⟨σ1,R1,Hw⟩:=JV _ hlay R Hw
 obtain⟨hch',hwant⟩:=AU (ops:=ops) (o:=o) R1 hg
 have hgs:=zL R1 g gs hch' hgt
 simp only[mf,ZB]at Hw
 subst hh
 split
 ·rename_i hwd
  have hgh:gh a g=true:=by rw[<-hwant];exact hwd
  refine hs G hG a w next Q (λv h'=>nS st σ1 w.heap h'/\K (qU σ1 o.dst v) h') KP ?_ (λv w' hk hK=> ?_) hp
  ·rw[Vo R1 hgh xs es hes];exact Hw.1 (by rw[hgs,hgh])
  ·exact hn v w' _ hk (fin σ1 w'.heap v (ZG (acC hlay) R1) (λhf=>by rw[hgh]at hf;cases hf)) (λp hp hgp=> .inr (OD R1 tau st hst _ hK.1 p hp hgp)) hK.2
 ·rename_i hwd
  have hgh:gh a g=false:=by rw[<-hwant];simpa using hwd
  exact hn undef w _ (oZ.refl w) (fin σ1 w.heap undef R1 (λ_=>rfl)) (λ_ _ _=> .inl rfl) (Hw.2 (by rw[hgs,hgh]))
end
end Go.Ev
namespace Go.Ev
section
set_option linter.unusedVariables false
variable {P:Program} {G:mG} {lv:Nat->Bool} {N:Nat} {ops:Array Oper} {δ:List qj} {a:Act} {σ:lm} {h:H} {w:World} {Q:Exit->Act->World->Prop}
def Vq(ops:Array Oper)(rest:List Oper)(t:Nat):Bool:=rest.any λo=>(o.looksAt ops).contains t
def OH(P:Program)(lv:Nat->Bool)(N:Nat)(ops:Array Oper):List Oper->List qj->Option (List St)
 |[],_=>some []
 |o::rest,δ=>match tr P o with
  |none=>none
  |some (.ef f xs)=>match Vn P lv N ops δ (Vq ops rest) [] o f xs with
   |some (l,δ')=>(OH P lv N ops rest δ').map (l++ ·)
   |none=>none
  |some k=>match Oz P lv N ops δ (Vq ops rest) o k with
   |some (l,δ')=>(OH P lv N ops rest δ').map (l++ ·)
   |none=>none
theorem uL.bare [DS]{δ:List qj}(R:uL lv N a σ h δ):uL lv N a σ h []:=
 ⟨R.lvs,R.sz,R.df,λ_ _ hf=>(by cases hf),λ_ _ hf=>(by cases hf),λ_ _ hf=>(by cases hf),λ_ _ hf=>(by cases hf),by simp⟩
def CQ [DS](lv:Nat->Bool)(N:Nat)(w0:World)(Q:Exit->lm->H->Prop):Exit->Act->World->Prop
 | .panic c,a,w=>oZ w0 w/\a.defers=DS.d/\Q (.panic c) (λ_=>undef) w.heap
 | .outgrown,_,_=>False
 |x,a,w=>oZ w0 w/\ ∃σ,uL lv N a σ w.heap []/\Q x σ w.heap
def pQ(Q:Exit->lm->H->Prop)(c:List PanicEntry)(h:H):Prop:=Q (.panic c) (λ_=>undef) h
theorem uh [DS](hG:nz P G){w0:World}{Q:Exit->lm->H->Prop}: ∀(rest:List Oper) (δ:List qj) (l:List St) (a:Act) (σ:lm) (w:World),OH P lv N ops rest δ=some l->uL lv N a σ w.heap δ->oZ w0 w->
  mf G l (Q .normal) (pQ Q) σ w.heap->wpList P ops (CQ lv N w0 Q) rest a w
 |[],δ,l,a,σ,w,hc,R,hk,Hw=>by
  cases hc
  exact⟨hk,σ,R.bare,Hw⟩
 |o::rest,δ,l,a,σ,w,hc,R,hk,Hw=>by
  simp only[OH]at hc
  have go:(if Region.wanted o (yielded ops a.tmps)then o.wp P a w (wpList P ops (CQ lv N w0 Q) rest) (CQ lv N w0 Q)else wpList P ops (CQ lv N w0 Q) rest (a.put o.dst undef) w):=by
   split at hc<;>try (cases hc;done)
   ·rename_i f xs ht
    split at hc<;>try (cases hc;done)
    rename_i l1 δ1 h1
    obtain⟨l2,h2,rfl⟩:=aU.1 hc
    rw[pY]at Hw
    exact En hG (zO ht) h1 R Hw rfl (λv w' σ' hk' R' _ K'=>uh hG rest δ1 l2 _ σ' w' h2 R' (hk.trans hk') K')
     (λc w' hk' hp=>⟨hk.trans hk',R.df,hp⟩)
   ·rename_i k hne ht
    split at hc<;>try (cases hc;done)
    rename_i l1 δ1 h1
    obtain⟨l2,h2,rfl⟩:=aU.1 hc
    rw[pY]at Hw
    obtain⟨v,σ',hv,hu,R',K'⟩:=yI (zO ht) h1 R Hw
    split
    ·rename_i hw
     exact lL ((hv hw).2 w (hv hw).1) (uh hG rest δ1 l2 _ σ' w h2 R' hk K')
    ·rename_i hw
     rw[<-hu (by simpa using hw)]
     exact uh hG rest δ1 l2 _ σ' w h2 R' hk K'
  unfold wpList
  split
  ·rename_i hw;rw[ay hw]at go;exact .inl go
  ·rename_i hw;rw[ah hw]at go;exact go
/-! ### A region that draws its order -/
def BR(M:Array Nat)(k i:Nat):Bool:=(M.getD i 0).testBit k
def row(acc:Array Nat)(o:Oper):Nat:=o.after.foldl (λs e=>if Region.binds .any e then s ||| 2 ^ e.on ||| acc.getD e.on 0 else s) 0
theorem Vr(acc:Array Nat)(k:Nat): ∀(es:List Edge) (s:Nat),(es.foldl (λs e=>if Region.binds .any e then s ||| 2 ^ e.on ||| acc.getD e.on 0 else s) s).testBit k=true->
  s.testBit k=true\/ ∃e∈es,Region.binds .any e=true/\(e.on=k\/(acc.getD e.on 0).testBit k=true)
 |[],s,h=> .inl h
 |e::r,s,h=>by
  rcases Vr acc k r _ h with h1|⟨e',he,hb,hk⟩
  ·simp only[]at h1
   split at h1
   ·rename_i hb
    simp only[Nat.testBit_or,Nat.testBit_two_pow,fq,bf]at h1
    rcases h1 with(h1|h1)|h1
    ·exact .inl h1
    ·exact .inr ⟨e,by simp,hb,.inl h1⟩
    ·exact .inr ⟨e,by simp,hb,.inr h1⟩
   ·exact .inl h1
  ·exact .inr ⟨e',by simp [he],hb,hk⟩
theorem Eo: ∀(l:List Oper) (acc:Array Nat),∃r:List Nat,(l.foldl (λacc o=>acc.push (row acc o)) acc).toList=acc.toList++r/\r.length=l.length/\
  ∀j o,l[j]? =some o-> ∀k,(r.getD j 0).testBit k=true-> ∃e∈o.after,Region.binds .any e=true/\(e.on=k\/(e.on<acc.size+j/\((acc.toList++r).getD e.on 0).testBit k=true))
 |[],acc=>⟨[],by simp,rfl,λj o h=>by simp at h⟩
 |o::l,acc=>by
  obtain⟨r,h1,h2,h3⟩:=Eo l (acc.push (row acc o))
  refine⟨row acc o::r,by simp [h1],by simp [h2],λj o' hj k hk=> ?_⟩
  cases j with
  |zero=>
   simp only[dV,bQ]at hj
   subst hj
   simp only[kr]at hk
   unfold row at hk
   rw[<-gV]at hk
   rcases Vr acc k _ 0 hk with h0|⟨e,he,hb,hk'⟩
   ·simp at h0
   ·refine⟨e,by simpa using he,hb,hk'.imp id λh=> ?_⟩
    rcases Nat.lt_or_ge e.on acc.size with hlt|hge
    ·refine⟨by omega,?_⟩
     simp only[dA,jB hlt,fI]at h
     rw[aO,bi (by simpa using hlt)]
     simpa [hlt]using h
    ·simp [dA,hge]at h
  |succ j=>
   simp only[fQ]at hj
   simp only[iX]at hk
   obtain⟨e,he,hb,hk'⟩:=h3 j o' hj k hk
   refine⟨e,he,hb,hk'.imp id fun⟨a1,a2⟩=>⟨by simp at a1;omega,by simpa using a2⟩⟩
theorem OI{j:Nat}{o:Oper}(hj:ops[j]? =some o){k:Nat}(hw:BR (Region.before ops) k j=true):
  ∃e∈o.after,Region.binds .any e=true/\(e.on=k\/(e.on<j/\BR (Region.before ops) k e.on=true)):=by
 have hb:Region.before ops=ops.toList.foldl (λacc o=>acc.push (row acc o)) #[]:=by
  unfold Region.before;rw[<-gV];rfl
 obtain⟨r,h1,_,h3⟩:=Eo ops.toList #[]
 rw[<-hb]at h1
 have hget: ∀i,(Region.before ops).getD i 0=r.getD i 0:=λi=>by
  rw[dA,aO,<-dX,h1];rfl
 unfold BR at hw ⊢
 rw[hget]at hw
 obtain⟨e,he,hbd,hk⟩:=h3 j o (by simpa using hj) k hw
 exact⟨e,he,hbd,hk.imp id fun⟨a1,a2⟩=>⟨by simpa using a1,by rw[hget];simpa using a2⟩⟩
def DC(ops:Array Oper)(listed:Array Bool):Prop:=listed.size=ops.size/\ ∀j o,ops[j]? =some o->listed.getD j false=true-> ∀e∈o.after,Region.binds .any e=true->listed.getD e.on false=true
theorem SI{listed:Array Bool}(hd:DC ops listed){k:Nat}: ∀(j:Nat) (o:Oper),ops[j]? =some o->(∀e∈o.after,Region.binds .any e=true->listed.getD e.on false=true)->BR (Region.before ops) k j=true->listed.getD k false=true:=by
 intro j
 induction j using Nat.strongRecOn with
 |_ j ih=>
  intro o ho hall hw
  obtain⟨e,he,hb,hk⟩:=OI ho hw
  rcases hk with rfl|⟨hlt,hk⟩
  ·exact hall e he hb
  ·have hj:e.on<ops.size:=by have:=(bN.1 ho).1;omega
   exact ih e.on hlt ops[e.on] (by simp [hj]) (hd.2 e.on _ (by simp [hj]) (hall e he hb)) hk
theorem DC.set{listed:Array Bool}(hd:DC ops listed){i:Nat}(hi:i∈Region.ready .any ops listed):DC ops (listed.setIfInBounds i true):=by
 refine⟨by simp [hd.1],λj o ho hl e he hb=>getD_set_true ?_⟩
 obtain⟨_,oi,hoi,hall⟩:=mem_ready.1 hi
 by_cases hij:j=i
 ·subst hij
  rw[hoi]at ho;cases ho
  exact hall e he hb
 ·rw[getD_set_ne false (iB hij)]at hl
  exact hd.2 j o ho hl e he hb
theorem acE{listed:Array Bool}(hd:DC ops listed){i j:Nat}(hi:i∈Region.ready .any ops listed)(hj:j∈Region.ready .any ops listed):BR (Region.before ops) i j=false:=by
 obtain⟨_,oj,hoj,hall⟩:=mem_ready.1 hj
 cases hw:BR (Region.before ops) i j with
 |false=>rfl
 |true=>
  have h1:=SI hd j oj hoj hall hw
  obtain⟨h0,oi,hoi,_⟩:=mem_ready.1 hi
  have hlt:=(bN.1 hoi).1
  rw[<-hd.1]at hlt
  simp only[dA,jB hlt,fI]at h0 h1
  rw[h0]at h1;cases h1
abbrev uj:=List (Nat×(World->Prop))
def wL(ops:Array Oper)(i:Nat)(Cs:uj):uj:=Cs.filter λc=> !BR (Region.before ops) c.1 i
def after(act:Nat->Bool)(ops:Array Oper)(Cs:uj)(i:Nat)(w w':World):Prop:=
 if act i then∀c∈wL ops i Cs,c.2 w' else w'=w
def wh(P:Program)(ops:Array Oper)(Q:Exit->Act->World->Prop)(act:Nat->Bool):Nat->Array Bool->uj->Act->World->Prop
 |0,listed,_,a,w=>Region.ready .any ops listed=[]/\Q .normal a w
 |fuel+1,listed,Cs,a,w=>
  (Region.ready .any ops listed=[]->Q .normal a w)/\
  ∀i∈Region.ready .any ops listed,wpOp P ops Q i (λa' w'=>after act ops Cs i w w'/\wh P ops Q act fuel (listed.setIfInBounds i true) (wL ops i Cs) a' w') a w
theorem FZ{act:Nat->Bool}: ∀(fuel:Nat) (listed:Array Bool) (Cs:uj) (a:Act) (w:World),wh P ops Q act fuel listed Cs a w->wpAny P .any ops Q fuel listed a w
 |0,_,_,_,_,h=>h
 |fuel+1,_,_,_,_,h=>⟨h.1,λi hi=>wpOp_mono (λa' w' h'=>FZ fuel _ _ a' w' h'.2) (h.2 i hi)⟩
theorem Ga{act:Nat->Bool}{Cs Cs':uj}{i:Nat}{w w':World}(hs:Cs'.Sublist Cs)(h:after act ops Cs i w w'):after act ops Cs' i w w':=by
 unfold after at*
 split
 ·rename_i ha;rw[ay ha]at h;exact λc' hc=>h c' ((hs.filter _).subset hc)
 ·rename_i ha;rw[ah ha]at h;exact h
theorem Ep{act:Nat->Bool}: ∀(fuel:Nat) (listed:Array Bool) (Cs Cs':uj) (a:Act) (w:World),Cs'.Sublist Cs->wh P ops Q act fuel listed Cs a w->wh P ops Q act fuel listed Cs' a w
 |0,_,_,_,_,_,_,h=>h
 |fuel+1,_,_,_,_,_,hs,h=>⟨h.1,λi hi=>wpOp_mono (λa' w' h'=>⟨Ga hs h'.1,Ep fuel _ _ _ a' w' (hs.filter _) h'.2⟩) (h.2 i hi)⟩
theorem LP {act:Nat->Bool} {i:Nat} {oi:Oper} {v:Value} {C:World->Prop} (hi:ops[i]? =some oi) (hact:act i=false)
  (hsel: ∀(j:Nat) (o:Oper) cs b,ops[j]? =some o->o.op≠ .select cs b) (hQ: ∀c a w,Q (.panic c) (a.put oi.dst v) w->Q (.panic c) a w):
  ∀(fuel:Nat) (listed:Array Bool) (Cs:uj) (a:Act) (w:World),DC ops listed->
   (∀j oj,ops[j]? =some oj->j≠i->listed.getD j true=false->(∀e∈oj.after,Region.binds .any e=true->e.on≠i)->oi.apart ops oj=true)->
   i∈Region.ready .any ops listed->YieldsIf P ops C oi v a->C w->
   wh P ops Q act fuel (listed.setIfInBounds i true) ((i,C)::Cs) (a.put oi.dst v) w->wh P ops Q act (fuel+1) listed Cs a w:=by
 intro fuel
 have aft: ∀(Cs:uj) (w:World),after act ops Cs i w w:=λCs w=>by unfold after;rw[hact];rfl
 have sub: ∀Cs:uj,(wL ops i Cs).Sublist ((i,C)::Cs):=λCs=>List.Sublist.trans List.filter_sublist (jN _ _)
 induction fuel with
 |zero=>
  intro listed Cs a w _ _ hr hy hS Hx
  refine⟨λh=>(by rw[h]at hr;cases hr),λj hj=> ?_⟩
  by_cases hji:j=i
  ·subst hji;exact hy.wpOp hi hS ⟨aft Cs w,Hx⟩
  ·have:=ready_mono hj hji
   rw[Hx.1]at this
   cases this
 |succ fuel ih=>
  intro listed Cs a w hdc hfree hr hy hS Hx
  refine⟨λh=>(by rw[h]at hr;cases hr),λj hj=> ?_⟩
  by_cases hji:j=i
  ·subst hji;exact hy.wpOp hi hS ⟨aft Cs w,Ep _ _ _ _ _ _ (sub Cs) Hx⟩
  ·have h1:=Hx.2 j (ready_mono hj hji)
   obtain⟨hjun,oj,hoj,hall⟩:=mem_ready.1 hj
   have hnot: ∀e∈oj.after,Region.binds .any e=true->e.on≠i:=λe he hb heq=>by
    have h1:=hall e he hb
    have h0:=(mem_ready.1 hr).1
    rw[heq]at h1
    rcases Nat.lt_or_ge i listed.size with h'|h'
    ·simp [h']at h0 h1;rw[h0]at h1;cases h1
    ·simp [Array.getElem?_eq_none h']at h1
   have hwait:=acE hdc hr hj
   have hkeep: ∀Cs:uj,wL ops j ((i,C)::Cs)=(i,C)::wL ops j Cs:=λCs=>by
    unfold wL;rw[eG];simp [hwait]
   have h2:=wpOp_putIf hoj (hfree j oj hoj hji hjun hnot) (λcs b=>hsel i oi cs b hi) (λcs b=>hsel j oj cs b hoj) hQ hy h1
   have hfree': ∀k ok,ops[k]? =some ok->k≠i->(listed.setIfInBounds j true).getD k true=false->
     (∀e∈ok.after,Region.binds .any e=true->e.on≠i)->oi.apart ops ok=true:=λk ok hk hki hun hno=>by
    refine hfree k ok hk hki ?_ hno
    by_cases hjk:j=k
    ·subst hjk;exact hjun
    ·rw[getD_set_ne true hjk]at hun;exact hun
   refine wpOp_mono (λa' w' h3=>⟨Ga (jN _ _) h3.2.1,ih (listed.setIfInBounds j true) _ a' w' (hdc.set hj) hfree' (ready_mono hr (iB hji)) h3.1 ?_ ?_⟩) h2
   ·have ha:=h3.2.1
    unfold after at ha
    rw[hkeep]at ha
    split at ha
    ·exact ha (i,C) (by simp)
    ·rw[ha];exact hS
   ·rw[Array.setIfInBounds_comm _ _ hji]
    have:=h3.2.2
    rw[hkeep]at this
    exact this
end
end Go.Ev
namespace Go.Ev
section
set_option linter.unusedVariables false
variable {P:Program} {G:mG} {lv:Nat->Bool} {N:Nat} {ops:Array Oper} {δ:List qj} {a:Act} {σ:lm} {h:H} {w:World}
/-! ### Code -/
inductive S where
 |sts (l:List St)|skip|seq (a b:S)|cond (t:Nat) (a b:S)|block (id:Nat) (s:S)|loop (s:S)|exit (id:Nat)|ret|scope (s:S)|dead|both (a b:S)|join (s:S)
 deriving Inhabited
abbrev qm:=Exit->lm->H->Prop
def Ak(K:lm->H->Prop)(Q:qm):qm
 | .normal,σ,h=>K σ h
 |x,σ,h=>Q x σ h
def Db(id:Nat)(Q:qm):qm
 | .exit i,σ,h=>if i=id then Q .normal σ h else Q (.exit i) σ h
 |x,σ,h=>Q x σ h
def SK(Q:qm):qm
 | .goto _,_,_=>False
 |x,σ,h=>Q x σ h
def wpS(G:mG):S->qm->lm->H->Prop
 | .sts l,Q,σ,h=>mf G l (Q .normal) (pQ Q) σ h
 | .skip,Q,σ,h=>Q .normal σ h
 | .seq a b,Q,σ,h=>wpS G a (Ak (wpS G b Q) Q) σ h
 | .cond t a b,Q,σ,h=>qw (σ t)=true/\(tb (σ t)=true->wpS G a Q σ h)/\(tb (σ t)=false->wpS G b Q σ h)
 | .block id s,Q,σ,h=>wpS G s (Db id Q) σ h
 | .loop s,Q,σ,h=> ∃(α:Type) (I:α->lm->H->Prop) (μ:α->Nat) (x:α),I x σ h/\ ∀x σ h,I x σ h->wpS G s (Ak (λσ' h'=> ∃y,I y σ' h'/\μ y<μ x) Q) σ h
 | .exit id,Q,σ,h=>Q (.exit id) σ h
 | .ret,Q,σ,h=>Q .ret σ h
 | .scope s,Q,σ,h=>wpS G s (SK Q) σ h
 | .dead,_,_,_=>False
 | .both a b,Q,σ,h=>wpS G a Q σ h/\wpS G b Q σ h
 | .join s,Q,σ,h=> ∃M:lm->H->Prop,wpS G s (Ak M Q) σ h/\ ∀σ' h',M σ' h'->Q .normal σ' h'
def oW(l:List St):S->S
 | .sts m=> .sts (l++m)
 |s=>if l.isEmpty then s else .seq (.sts l) s
theorem SL{G:mG}{Q:qm}{σ:lm}{h:H}(l:List St)(s:S):wpS G (oW l s) Q σ h=mf G l (wpS G s Q) (pQ Q) σ h:=by
 unfold oW
 split
 ·simp only[wpS,pY]
 ·split
  ·rename_i hl;rw[List.isEmpty_iff.1 hl];rfl
  ·rfl
def ZI:List S->S
 |[]=> .dead
 |[s]=>s
 |s::r=> .both s (ZI r)
theorem OJ{G:mG}{Q:qm}{σ:lm}{h:H}: ∀(l:List S),wpS G (ZI l) Q σ h-> ∀s∈l,wpS G s Q σ h
 |[],_,s,hs=>by cases hs
 |[s],hw,s',hs=>by simp only[bJ]at hs;subst hs;exact hw
 |s::s2::r,hw,s',hs=>by
  rcases bn.1 hs with rfl|hs
  ·exact hw.1
  ·exact OJ (s2::r) hw.2 s' hs
def acF:List (Option S)->Option (List S)
 |[]=>some []
 |some s::r=>(acF r).map (s:: ·)
 |none::_=>none
theorem OL: ∀(l:List (Option S)) (r:List S),acF l=some r-> ∀x∈l,∃s∈r,x=some s
 |[],_,_,x,hx=>by cases hx
 |none::_,_,h,_,_=>by cases h
 |some s::l,r,h,x,hx=>by
  simp only[acF]at h
  obtain⟨r',h1,rfl⟩:=aU.1 h
  rcases bn.1 hx with rfl|hx
  ·exact⟨s,by simp,rfl⟩
  ·obtain⟨s',h2,h3⟩:=OL l r' h1 x hx
   exact⟨s',by simp [h2],h3⟩
abbrev OM:=Nat×(Operand×List (Nat×Bool)×Option Nat)
def LQ(P:Program)(ops:Array Oper)(i:Nat):Bool:=match(ops[i]?).bind (tr P)with
 |some (.ef _ _)=>false
 |some _=>true
 |none=>false
def OO(t:Nat)(x:Operand)(g:List (Nat×Bool)):Bool:=(match x with| .tmp u=>u == t|_=>false) || g.any λp=>p.1 == t
def SN(ops:Array Oper)(listed:Array Bool)(τ:List OM)(t:Nat):Bool:=
 (List.range ops.size).any (λj=> !listed.getD j true && match ops[j]? with|some o=>(o.looksAt ops).contains t|none=>false) || τ.any λp=>OO t p.2.1 p.2.2.1
def SQ(lv:Nat->Bool)(δ:List qj)(ops:Array Oper)(o:Oper):Option (List (Nat×Bool)):=match o.dst with
 |some d=>if lv d then(match o.guard with|none=>some []|_=>none)else xH ops δ o
 |none=>none
def acG(d:Option Nat)(τ:List OM):Bool:=match d with|some d=>τ.all (λp=> !OO d p.2.1 p.2.2.1)|none=>true
def Gb(P:Program)(lv:Nat->Bool)(N:Nat)(ops:Array Oper):Nat->Array Bool->List qj->List OM->Option S
 |0,listed,_,_=>if(Region.ready .any ops listed).isEmpty then some (.sts [])else none
 |fuel+1,listed,δ,τ=>
  match Region.ready .any ops listed with
  |[]=>some (.sts [])
  |i0::rs=>match(i0::rs).find? (LQ P ops)with
   |some i=>match ops[i]? with
    |none=>none
    |some o=>match tr P o,o.dst with
     |some k,some d=>if Region.free .any ops listed i && τ.all (λp=> !OO d p.2.1 p.2.2.1)then
       match Vp k,SQ lv δ ops o with
       |some (x,n),some g=>if OO d x g then none else
        match Oz P lv N ops δ (SN ops (listed.setIfInBounds i true) ((i,x,g,n)::τ)) o k with
        |some (l,δ')=>(Gb P lv N ops fuel (listed.setIfInBounds i true) δ' ((i,x,g,n)::τ)).map (oW l)
        |none=>none
       |none,_=>match Oz P lv N ops δ (SN ops (listed.setIfInBounds i true) τ) o k with
        |some (l,δ')=>(Gb P lv N ops fuel (listed.setIfInBounds i true) δ' τ).map (oW l)
        |none=>none
       |_,_=>none
      else none
     |_,_=>none
   |none=>(acF ((i0::rs).map λi=>match ops[i]? with
    |some o=>match tr P o with
     |some (.ef f xs)=>
      if acG o.dst (τ.filter λp=> !BR (Region.before ops) p.1 i)then
       match Vn P lv N ops δ (SN ops (listed.setIfInBounds i true) (τ.filter λp=> !BR (Region.before ops) p.1 i)) ((τ.filter λp=> !BR (Region.before ops) p.1 i).map (·.2)) o f xs with
       |some (l,δ')=>(Gb P lv N ops fuel (listed.setIfInBounds i true) δ' (τ.filter λp=> !BR (Region.before ops) p.1 i)).map (oW l)
       |none=>none
      else none
     |_=>none
    |none=>none)).map ZI
def TR(a:Act)(w:World):List OM->uj->Prop
 |[],[]=>True
 |(k,x,g,n)::τ,(k',C)::Cs=>k'=k/\(∃h0,C=(λw'=>gh a g=true->rJ (a.eval x) n h0 w'.heap)/\(gh a g=true->rJ (a.eval x) n h0 w.heap))/\TR a w τ Cs
 |_,_=>False
theorem acH{g:List (Nat×Bool)}{d:Nat}{v:Value}(hg:(g.any λp=>p.1 == d)=false):gh (a.put (some d) v) g=gh a g:=
 SH λq hq he=>by
  have:=(List.any_eq_false.1 hg) q hq
  simp [he]at this
theorem JW{x:Operand}{g:List (Nat×Bool)}{d:Option Nat}{v:Value}(hu: ∀d',d=some d'->OO d' x g=false):(a.put d v).eval x=a.eval x/\gh (a.put d v) g=gh a g:=by
 cases d with
 |none=>exact⟨rfl,rfl⟩
 |some d=>
  have:=hu d rfl
  unfold OO at this
  simp only[dB]at this
  refine⟨?_,acH this.2⟩
  cases x with
  |tmp t=>
   have hne:t≠d:=by simpa using this.1
   exact oI hne
  |_=>rfl
theorem LU{d:Option Nat}{v:Value}: ∀(τ:List OM) (Cs:uj),(∀d',d=some d'->τ.all (λp=> !OO d' p.2.1 p.2.2.1)=true)->TR a w τ Cs->TR (a.put d v) w τ Cs
 |[],[],_,h=>h
 |[],_::_,_,h=>h.elim
 |_::_,[],_,h=>h.elim
 |(k,x,g,n)::τ,(k',C)::Cs,hu,h=>by
  obtain⟨h1,⟨h0,h2,h3⟩,h4⟩:=h
  have hu': ∀d',d=some d'->OO d' x g=false/\τ.all (λp=> !OO d' p.2.1 p.2.2.1)=true:=λd' hd=>by
   have:=hu d' hd
   simp only[jh,bA]at this
   exact⟨by simpa using this.1,this.2⟩
  obtain⟨e1,e2⟩:=JW (a:=a) (x:=x) (g:=g) (d:=d) (v:=v) (λd' hd=>(hu' d' hd).1)
  refine⟨h1,⟨h0,?_,?_⟩,LU τ Cs (λd' hd=>(hu' d' hd).2) h4⟩
  ·rw[e1,e2];exact h2
  ·rw[e1,e2];exact h3
theorem OP{p:Value}{n:Option Nat}{h0 h1 h2:H}(x:rJ p n h0 h1)(y:rJ p n h1 h2):rJ p n h0 h2:=by
 unfold rJ at*
 split
 ·cases n<;>simp_all
 ·trivial
theorem JX(i:Nat): ∀(τ:List OM) (Cs:uj),TR a w τ Cs->TR a w (τ.filter λp=> !BR (Region.before ops) p.1 i) (wL ops i Cs)
 |[],[],h=>h
 |[],_::_,h=>h.elim
 |_::_,[],h=>h.elim
 |(k,x,g,n)::τ,(k',C)::Cs,h=>by
  obtain⟨rfl,h2,h3⟩:=h
  have ih:=JX i τ Cs h3
  unfold wL at ih ⊢
  simp only[eG]
  cases hw:BR (Region.before ops) k' i with
  |true=>simpa using ih
  |false=>exact⟨rfl,h2,ih⟩
theorem OQ{w':World}: ∀(τ:List OM) (Cs:uj),TR a w τ Cs->(∀p∈τ,gh a p.2.2.1=true->w'=w\/rJ (a.eval p.2.1) p.2.2.2 w.heap w'.heap)->TR a w' τ Cs/\ ∀c∈Cs,c.2 w'
 |[],[],h,_=>⟨h,λc hc=>by cases hc⟩
 |[],_::_,h,_=>h.elim
 |_::_,[],h,_=>h.elim
 |(k,x,g,n)::τ,(k',C)::Cs,h,hs=>by
  obtain⟨h1,⟨h0,h2,h3⟩,h4⟩:=h
  obtain⟨i1,i2⟩:=OQ τ Cs h4 (λp hp=>hs p (by simp [hp]))
  have key:gh a g=true->rJ (a.eval x) n h0 w'.heap:=λhg=>by
   rcases hs (k,x,g,n) (by simp) hg with rfl|hsm
   ·exact h3 hg
   ·exact OP (h3 hg) hsm
  refine⟨⟨h1,⟨h0,h2,key⟩,i1⟩,λc hc=> ?_⟩
  rcases bn.1 hc with rfl|hc
  ·simp only;rw[h2];exact key
  ·exact i2 c hc
theorem Er{Q:Exit->Act->World->Prop}{act:Nat->Bool}{k:Nat}: ∀(fuel:Nat) (listed:Array Bool) (Cs:uj) (a:Act) (w:World),wh P ops Q act fuel listed Cs a w->wh P ops Q act fuel listed ((k,λ_=>True)::Cs) a w
 |0,_,_,_,_,h=>h
 |fuel+1,listed,Cs,a,w,h=>by
  refine⟨h.1,λi hi=>wpOp_mono (λa' w' h'=> ?_) (h.2 i hi)⟩
  obtain⟨h1,h2⟩:=h'
  have hk:wL ops i ((k,λ_=>True)::Cs)=if BR (Region.before ops) k i then wL ops i Cs else(k,λ_=>True)::wL ops i Cs:=by
   unfold wL;rw[eG];cases BR (Region.before ops) k i<;>simp
  refine⟨?_,?_⟩
  ·unfold after at h1 ⊢
   rw[hk]
   split
   ·rename_i ha
    rw[ay ha]at h1
    split
    ·exact h1
    ·intro c hc
     rcases bn.1 hc with rfl|hc
     ·trivial
     ·exact h1 c hc
   ·rename_i ha;rw[ah ha]at h1;exact h1
  ·rw[hk]
   split
   ·exact h2
   ·exact Er fuel _ _ _ _ h2
theorem ZJ [DS]{o:Oper}{g:List (Nat×Bool)}(R:uL lv N a σ h δ)(ht:SQ lv δ ops o=some g):Region.wanted o (yielded ops a.tmps)=gh a g:=by
 unfold SQ at ht
 split at ht<;>try (cases ht;done)
 split at ht
 ·split at ht<;>cases ht
  rename_i h0
  unfold Region.wanted;rw[h0];rfl
 ·exact(AU R ht).2
theorem agy [DS]{w0:World}{Q:Exit->lm->H->Prop}{d:Option Nat}{v:Value}: ∀c a w,CQ lv N w0 Q (.panic c) (Act.put a d v) w->CQ lv N w0 Q (.panic c) a w:=by
 intro c a w ⟨h1,h2,h3⟩
 refine⟨h1,?_,h3⟩
 cases d<;>simpa [Act.put]using h2
theorem OT [DS](hG:nz P G){w0:World}{Q:Exit->lm->H->Prop}(hsel:Region.noSelect ops=true): ∀(fuel:Nat) (listed:Array Bool) (δ:List qj) (τ:List OM) (l:S) (a:Act) (σ:lm) (w:World) (Cs:uj),
  Gb P lv N ops fuel listed δ τ=some l->DC ops listed->uL lv N a σ w.heap δ->TR a w τ Cs->oZ w0 w->wpS G l Q σ w.heap->
  wh P ops (CQ lv N w0 Q) (λi=> !LQ P ops i) fuel listed Cs a w:=by
 intro fuel
 induction fuel with
 |zero=>
  intro listed δ τ l a σ w Cs hc _ R _ hk Hw
  simp only[Gb]at hc
  split at hc<;>cases hc
  rename_i hr
  exact⟨by simpa using hr,hk,σ,R.bare,Hw⟩
 |succ fuel ih=>
  intro listed δ τ l a σ w Cs hc hdc R ht hk Hw
  simp only[Gb]at hc
  split at hc
  ·rename_i hr
   cases hc
   exact⟨λ_=>⟨hk,σ,R.bare,Hw⟩,by rw[hr];intro i hi;cases hi⟩
  ·rename_i i0 rs hr
   split at hc
   ·-- a quiet one is taken first
    rename_i i hfi
    have hqi:LQ P ops i=true:=List.find?_some hfi
    have hir:i∈Region.ready .any ops listed:=by rw[hr];exact jy hfi
    split at hc<;>try (cases hc;done)
    rename_i o ho
    split at hc<;>try (cases hc;done)
    rename_i k d htr hd
    split at hc<;>try (cases hc;done)
    rename_i hcond
    simp only[bA]at hcond
    have first:=fun(C:World->Prop) (v:Value) (hy:YieldsIf P ops C o v a) (hC:C w)=>LP (Q:=CQ lv N w0 Q) (act:=λi=> !LQ P ops i) (C:=C) ho (by simp [hqi]) (Region.noSelect_spec hsel) agy fuel listed Cs a w hdc
     (Region.free_spec ho hcond.1) hir hy hC
    have hdc':=hdc.set hir
    split at hc
    ·rename_i x n g hkl htg
     split at hc<;>try (cases hc;done)
     rename_i hux
     split at hc<;>try (cases hc;done)
     rename_i l1 δ1 h1
     obtain⟨l2,h2,rfl⟩:=aU.1 hc
     rw[SL]at Hw
     obtain⟨v,σ',hv,hu,R',K'⟩:=yI (zO htr) h1 R Hw
     have hwant:=ZJ (ops:=ops) (o:=o) R htg
     have hkc: ∀h',BQ k a w.heap h'=rJ (a.eval x) n w.heap h':=λh'=>by unfold BQ;rw[hkl]
     refine first (λw'=>gh a g=true->rJ (a.eval x) n w.heap w'.heap) v ?_ ?_ ?_
     ·cases hw:Region.wanted o (yielded ops a.tmps)with
      |true=>exact .inl ⟨hw,λw' hC=>(hv hw).2 w' (by rw[hkc];exact hC (by rw[<-hwant];exact hw))⟩
      |false=>exact .inr ⟨hw,hu hw⟩
     ·intro hg;rw[<-hkc];exact(hv (by rw[hwant];exact hg)).1
     ·obtain⟨e1,e2⟩:=JW (a:=a) (x:=x) (g:=g) (d:=o.dst) (v:=v) (λd' hd'=>by rw[hd]at hd';cases hd';simpa using hux)
      refine ih _ δ1 _ l2 _ σ' w _ h2 hdc' R' ⟨rfl,⟨w.heap,?_,?_⟩,LU τ Cs (λd' hd'=>by rw[hd]at hd';cases hd';exact hcond.2) ht⟩ hk K'
      ·rw[e1,e2]
      ·rw[e1,e2];intro hg;rw[<-hkc];exact(hv (by rw[hwant];exact hg)).1
    ·rename_i hkl
     split at hc<;>try (cases hc;done)
     rename_i l1 δ1 h1
     obtain⟨l2,h2,rfl⟩:=aU.1 hc
     rw[SL]at Hw
     obtain⟨v,σ',hv,hu,R',K'⟩:=yI (zO htr) h1 R Hw
     refine first (λ_=>True) v ?_ trivial ?_
     ·cases hw:Region.wanted o (yielded ops a.tmps)with
      |true=>exact .inl ⟨hw,λw' _=>(hv hw).2 w' (by unfold BQ;rw[hkl];trivial)⟩
      |false=>exact .inr ⟨hw,hu hw⟩
     ·exact Er _ _ _ _ _ (ih _ δ1 _ l2 _ σ' w _ h2 hdc' R' (LU τ Cs (λd' hd'=>by rw[hd]at hd';cases hd';exact hcond.2) ht) hk K')
    ·cases hc
   ·-- those that act
    rename_i hnone
    obtain⟨ls,hls,rfl⟩:=aU.1 hc
    refine⟨λh0=>(by rw[hr]at h0;cases h0),λi hi=> ?_⟩
    have hir:=hi
    rw[hr]at hi
    obtain⟨s0,hs0,hc⟩:=OL _ _ hls _ (bq.2 ⟨i,hi,rfl⟩)
    replace Hw:=OJ _ Hw s0 hs0
    split at hc<;>try (cases hc;done)
    rename_i o ho
    split at hc<;>try (cases hc;done)
    rename_i f xs htr
    split at hc<;>try (cases hc;done)
    rename_i hcond
    split at hc<;>try (cases hc;done)
    rename_i l1 δ1 h1
    obtain⟨l2,h2,rfl⟩:=aU.1 hc
    rw[SL]at Hw
    have hact:LQ P ops i=false:=by unfold LQ;rw[ho];simp [htr]
    have tf:=JX (ops:=ops) i τ Cs ht
    have main:=En (Q:=CQ lv N w0 Q) (next:=λa' w'=>after (λi=> !LQ P ops i) ops Cs i w w'/\wh P ops (CQ lv N w0 Q) (λi=> !LQ P ops i) fuel (listed.setIfInBounds i true) (wL ops i Cs) a' w')
     hG (zO htr) h1 R Hw rfl (λv w' σ' hk' R' hsm K'=>by
      obtain⟨t1,t2⟩:=OQ (w':=w') _ _ tf (λp hp hg=>hsm p.2 (bq.2 ⟨p,hp,rfl⟩) hg)
      refine⟨?_,ih _ δ1 _ l2 _ σ' w' _ h2 (hdc.set hir) R' (LU _ _ (λd' hd'=>by rw[hd']at hcond;exact hcond) t1) (hk.trans hk') K'⟩
      unfold after
      rw[ay (by simp [hact])]
      exact t2)
     (λc w' hk' hp=>⟨hk.trans hk',R.df,hp⟩)
    unfold wpOp
    rw[ho]
    simp only
    split
    ·rename_i hw;rw[ay hw]at main;exact .inl main
    ·rename_i hw;rw[ah hw]at main;exact main
end
end Go.Ev
namespace Go.Ev
/-! ### Code, put together -/
def agz:S->S
 | .sts l=> .sts l
 |s=> .join s
def pm(P:Program)(lv:Nat->Bool)(N:Nat):Code->Option S
 | .skip=>some .skip
 | .label _=>some .skip
 | .region _ ops draw=>if draw then(if Region.noSelect ops then(Gb P lv N ops ops.size (Array.replicate ops.size false) [] []).map agz else none)
   else(OH P lv N ops ops.toList []).map .sts
 | .seq a b=>match pm P lv N a,pm P lv N b with
  |some x,some y=>some (.seq x y)
  |_,_=>none
 | .cond (.tmp t) a b=>if lv t then match pm P lv N a,pm P lv N b with
   |some x,some y=>some (.cond t x y)
   |_,_=>none
  else none
 | .cond (.const (.bool true)) a _=>pm P lv N a
 | .cond (.const (.bool false)) _ b=>pm P lv N b
 | .block id c=>(pm P lv N c).map (.block id)
 | .loop c=>(pm P lv N c).map .loop
 | .exit id=>some (.exit id)
 | .ret=>some .ret
 | .scope c=>(pm P lv N c).map .scope
 |_=>some .dead
section
set_option linter.unusedVariables false
variable {P:Program} {G:mG} {lv:Nat->Bool} {N:Nat} {ops:Array Oper} {a:Act} {σ:lm} {h:H} {w w0:World} {Q:qm}
theorem Xr {c:Code} {Q:Exit->Act->World->Prop} (I:Nat->Act->World->Prop) (n:Nat) (h0:I n a w)
  (round: ∀n a w,I n a w->c.wp P (Exit.then (λa' w'=> ∃m,m<n/\I m a' w') Q) a w):(Code.loop c).wp P Q a w:=by
 intro b k cs
 have key: ∀n a w,I n a w-> ∃e a' w',Q e a' w'/\Arrives P (lone (b.at a (.code c:: .inLoop c::k)) cs w) b k cs e a' w':=by
  intro n
  induction n using Nat.strongRecOn with
  |_ n ih=>
   intro a w hI
   obtain⟨e,a₁,w₁,hq,harr⟩:=round n a w hI b (.inLoop c::k) cs
   cases e with
   |normal=>
    obtain⟨m,hlt,hI₁⟩:=hq
    obtain⟨e₂,a₂,w₂,hq₂,harr₂⟩:=ih m hlt a₁ w₁ hI₁
    exact⟨e₂,a₂,w₂,hq₂,.of_steps (Steps.trans harr (.one step_inLoop)) harr₂⟩
   |exit id=>exact⟨_,a₁,w₁,hq,.pass (x:= .inLoop c) rfl (λ_ _=> .inl (by simp)) harr⟩
   |goto l=>exact⟨_,a₁,w₁,hq,.pass (x:= .inLoop c) rfl (λ_ _=> .inl (by simp)) harr⟩
   |ret=>exact⟨_,a₁,w₁,hq,.pass (x:= .inLoop c) rfl (λ_ _=> .inl (by simp)) harr⟩
   |panic ch=>exact⟨_,a₁,w₁,hq,.pass (x:= .inLoop c) rfl (λ_ _=> .inl (by simp)) harr⟩
   |outgrown=>exact⟨_,a₁,w₁,hq,.pass (x:= .inLoop c) rfl (λ_ _=> .inl (by simp)) harr⟩
 obtain⟨e,a',w',hq,harr⟩:=key n a w h0
 exact⟨e,a',w',hq,.of_steps (.one step_loop) harr⟩
theorem vG [DS](hG:nz P G)(hmix:P.follows .mixedOrders=true): ∀(c:Code) (s:S) (Q:qm) (a:Act) (σ:lm) (w w0:World),pm P lv N c=some s->uL lv N a σ w.heap []->oZ w0 w->wpS G s Q σ w.heap->c.wp P (CQ lv N w0 Q) a w:=by
 intro c
 induction c with
 |skip=>intro s Q a σ w w0 hc R hk Hw;cases hc;exact wp_skip ⟨hk,σ,R,Hw⟩
 |label l=>intro s Q a σ w w0 hc R hk Hw;cases hc;exact wp_label ⟨hk,σ,R,Hw⟩
 |exit id=>intro s Q a σ w w0 hc R hk Hw;cases hc;exact wp_exit ⟨hk,σ,R,Hw⟩
 |ret=>intro s Q a σ w w0 hc R hk Hw;cases hc;exact wp_ret ⟨hk,σ,R,Hw⟩
 |region id ops draw=>
  intro s Q a σ w w0 hc R hk Hw
  simp only[pm]at hc
  cases draw with
  |false=>
   simp only[aV,bZ]at hc
   obtain⟨l,hl,rfl⟩:=aU.1 hc
   exact wp_region_list (uh hG _ _ l a σ w hl R hk Hw)
  |true=>
   simp only[dx]at hc
   split at hc<;>try (cases hc;done)
   rename_i hsel
   have hk':oZ w0 {w with drawn:=w.drawn+1}:=⟨hk.os,hk.tape,hk.output⟩
   obtain⟨s0,hc0,rfl⟩:=aU.1 hc
   have main: ∀Q':qm,wpS G s0 Q' σ w.heap->(Code.region id ops true).wp P (CQ lv N w0 Q') a w:=λQ' Hw=>by
    refine wp_region_any hmix (FZ _ _ [] _ _ (OT hG hsel _ _ [] [] s0 a σ {w with drawn:=w.drawn+1} [] hc0 ?_ R trivial hk' Hw))
    refine⟨by simp,λj o hj hl=> ?_⟩
    have:=(bN.1 hj).1
    simp [dA,this]at hl
   have join:wpS G (.join s0) Q σ w.heap->(Code.region id ops true).wp P (CQ lv N w0 Q) a w:=fun⟨M,h1,h2⟩=>by
    refine wp_mono (main _ h1) λe a' w' hq=> ?_
    cases e with
    |normal=>obtain⟨k1,σ',R',hM⟩:=hq;exact⟨k1,σ',R',h2 _ _ hM⟩
    |_=>exact hq
   cases s0<;>first|exact main Q Hw|exact join Hw
 |seq x y ihx ihy=>
  intro s Q a σ w w0 hc R hk Hw
  simp only[pm]at hc
  split at hc<;>cases hc
  rename_i sx sy h1 h2
  refine wp_seq (wp_mono (ihx sx _ a σ w w0 h1 R hk Hw) λe a' w' hq=> ?_)
  cases e with
  |normal=>obtain⟨hk',σ',R',hq'⟩:=hq;exact ihy sy Q a' σ' w' w0 h2 R' hk' hq'
  |_=>exact hq
 |cond c x y ihx ihy=>
  intro s Q a σ w w0 hc R hk Hw
  cases c with
  |const v=>
   cases v<;>try (cases hc;exact Hw.elim)
   rename_i b
   cases b
   ·exact wp_cond_split (t:=false) rfl (λe=>by cases e) (λ_=>ihy s Q a σ w w0 hc R hk Hw)
   ·exact wp_cond_split (t:=true) rfl (λ_=>ihx s Q a σ w w0 hc R hk Hw) (λe=>by cases e)
  |tmp t=> ?_
  |_=>cases hc;exact Hw.elim
  simp only[pm]at hc
  split at hc<;>try (cases hc;done)
  rename_i hl
  split at hc<;>cases hc
  rename_i sx sy h1 h2
  obtain⟨hb,ht,hf⟩:=Hw
  have hv:a.eval (.tmp t)=σ t:=R.lvs t hl
  cases hσ:σ t<;>simp [hσ,qw]at hb
  rename_i b
  refine wp_cond_split (t:=b) (by rw[hv,hσ]) (λe=>ihx sx Q a σ w w0 h1 R hk (ht (by rw[hσ];exact e))) (λe=>ihy sy Q a σ w w0 h2 R hk (hf (by rw[hσ];exact e)))
 |block id c ih=>
  intro s Q a σ w w0 hc R hk Hw
  obtain⟨s',hs,rfl⟩:=aU.1 hc
  refine wp_block (wp_mono (ih s' _ a σ w w0 hs R hk Hw) λe a' w' hq=> ?_)
  cases e with
  |exit i=>
   obtain⟨hk',σ',R',hq'⟩:=hq
   simp only[Exit.inBlock]
   simp only[Db]at hq'
   split
   ·rename_i hi;rw[ay hi]at hq';exact⟨hk',σ',R',hq'⟩
   ·rename_i hi;rw[ah hi]at hq';exact⟨hk',σ',R',hq'⟩
  |_=>exact hq
 |loop c ih=>
  intro s Q a σ w w0 hc R hk Hw
  obtain⟨s',hs,rfl⟩:=aU.1 hc
  obtain⟨α,I,μ,x,h0,round⟩:=Hw
  refine Xr (λn a w=>oZ w0 w/\ ∃σ x,uL lv N a σ w.heap []/\μ x=n/\I x σ w.heap) (μ x) ⟨hk,σ,x,R,rfl,h0⟩ λn a w ⟨hk,σ,x,R,hx,hI⟩=> ?_
  subst hx
  refine wp_mono (ih s' _ a σ w w0 hs R hk (round x σ w.heap hI)) λe a' w' hq=> ?_
  cases e with
  |normal=>obtain⟨hk',σ',R',y,hI',hlt⟩:=hq;exact⟨μ y,hlt,hk',σ',y,R',rfl,hI'⟩
  |_=>exact hq
 |scope c ih=>
  intro s Q a σ w w0 hc R hk Hw
  obtain⟨s',hs,rfl⟩:=aU.1 hc
  refine wp_scope_straight (wp_mono (ih s' _ a σ w w0 hs R hk Hw) λe a' w' hq=> ?_)
  cases e with
  |goto l=>obtain⟨_,_,_,hf⟩:=hq;exact hf
  |_=>exact hq
 |_=>intro s Q a σ w w0 hc R hk Hw;cases hc;exact Hw.elim
end
end Go.Ev
namespace Go.Ev
section
set_option linter.unusedVariables false
variable {P:Program} {G:mG} {lv:Nat->Bool} {N:Nat} {σ:lm} {h:H} {Q:qm}
def vH:Nat->List Value->lm->lm
 |_,[],σ=>σ
 |k,a::r,σ=>vH (k+1) r (kF σ k a)
def LV:lm:=λ_=>undef
theorem JY: ∀(k:Nat) (l:List Value) (σ:lm) (i:Nat),vH k l σ i=if i<k then σ i else if i<k+l.length then l.getD (i - k) undef else σ i
 |k,[],σ,i=>by simp [vH];intro h1 h2;omega
 |k,a::r,σ,i=>by
  simp only[vH]
  rw[JY]
  by_cases h1:i<k
  ·simp [h1,show i<k+1 by omega,kF,show i≠k by omega]
  ·by_cases h2:i=k
   ·subst h2;simp [kF]
   ·have h3: ¬i<k+1:=by omega
    rw[ah h3,ah h1]
    have e:i - k=(i - (k+1))+1:=by omega
    simp only[aM]
    by_cases h4:i<k+1+r.length
    ·rw[ay h4,ay (by omega),e];rfl
    ·rw[ah h4,ah (by omega)];simp [kF,h2]
/-! ### Results -/
abbrev Jl:=List (Option Chk×E)
def Dc(P:Program)(lv:Nat->Bool):List ResultVar->Option Jl
 |[]=>some []
 | .tmp t::r=>if lv t then(Dc P lv r).map ((none,.t t):: ·)else none
 | .cell a t::r=>if lv a then match AX P t,rW P t,Dc P lv r with
   |some true,some n,some l=>some ((some (.c1 (.ldn n) (.t a)),.o1 (.ldn n) (.t a))::l)
   |some false,some _,some l=>some ((some (.c1 .ld1 (.t a)),.o1 .ld1 (.t a))::l)
   |_,_,_=>none
  else none
def one:List Value->Value
 |[v]=>v
 |l=> .tuple l.toArray
def wM:Jl->lm->H->Prop
 |[],_,_=>True
 |(none,_)::r,σ,h=>wM r σ h
 |(some c,_)::r,σ,h=>xG c σ h/\wM r σ h
def Jn(es:Jl)(R:Ending->H->Prop):qm
 | .normal,σ,h=>wM es σ h/\R (.returned (one (es.map λe=>val e.2 σ h))) h
 | .ret,σ,h=>wM es σ h/\R (.returned (one (es.map λe=>val e.2 σ h))) h
 | .panic c,_,h=>R (.panicked c) h
 |_,_,_=>False
def Gc(a:Act):ResultVar->Sem Value
 | .tmp t=>pure (a.tmps.getD t undef)
 | .cell b t=>do loadVar t (<-asAddr (a.tmps.getD b undef))
theorem Fw [DS]{a:Act}{w:World}(R:uL lv N a σ w.heap []): ∀(rs:List ResultVar) (es:Jl),Dc P lv rs=some es->wM es σ w.heap->
  (rs.mapM (Gc a)).run P w= .ok (es.map λe=>val e.2 σ w.heap) w
 |[],es,h,_=>by cases h;rfl
 | .tmp t::r,es,h,hok=>by
  simp only[Dc]at h
  split at h<;>try (cases h;done)
  rename_i hl
  obtain⟨l,hr,rfl⟩:=aU.1 h
  have ih:=Fw R r l hr hok
  simp only[fG,Gc,Sem.run_bind,Sem.run_pure,Result.andThen_ok,ih,bF,val,R.lvs t hl]
 | .cell b t::r,es,h,hok=>by
  simp only[Dc]at h
  split at h<;>try (cases h;done)
  rename_i hl
  split at h<;>cases h
  ·rename_i n l h1 h2 h3
   have ih:=Fw R r l h3 hok.2
   have hs:=hok.1
   simp only[xG,val,s1]at hs
   split at hs<;>try (exact hs.elim)
   rename_i b' o' hx
   have hld:=run_loadCells (P:=P) (w:=w) ⟨b',o',none⟩ n (λj=>hv w.heap b' (o'+j)) (λj hj=>by rw[Xz,qf];exact vQ (by omega))
   simp only[fG,Gc,Sem.run_bind,Sem.run_pure,Result.andThen_ok,ih,bF,val,R.lvs b hl,hx,asAddr,loadVar,agg h1,OY h2,dx,hld,v1]
   rfl
  ·rename_i n l h1 h2 h3
   have ih:=Fw R r l h3 hok.2
   have hs:=hok.1
   simp only[xG,val,s1]at hs
   split at hs<;>try (exact hs.elim)
   rename_i b' o' hx
   have:=vQ hs
   simp [fG,Gc,ih,val,R.lvs b hl,hx,asAddr,loadVar,agg h1,v1,qf,this]
theorem SS [DS]{fn:Func}{a:Act}{w:World}{es:Jl}(R:uL lv N a σ w.heap [])(hr:Dc P lv fn.results.toList=some es)(hok:wM es σ w.heap):
  (results fn a.tmps).run P w= .ok (one (es.map λe=>val e.2 σ w.heap)) w:=by
 have h1:=Fw R _ _ hr hok
 have e1:results fn a.tmps=(do let vs<-fn.results.toList.toArray.mapM (Gc a);pure (if h:vs.size=1 then vs[0]else .tuple vs)):=rfl
 rw[e1]
 simp only[List.mapM_toArray,Sem.run_bind,Sem.run_map,h1,Result.andThen_ok,Sem.run_pure]
 congr 1
 generalize (es.map λe=>val e.2 σ w.heap)=l
 cases l with
 |nil=>rfl
 |cons x r=>cases r<;>simp [one]
end
section
set_option linter.unusedVariables false
variable {P:Program} {G:mG} {lv:Nat->Bool} {N:Nat} {σ:lm} {h:H} {Q:qm}
theorem OU {f:FuncId} {fn:Func} {s:S} {es:Jl} {args:List Value} {R:Ending->H->Prop} (hmix:P.follows .mixedOrders=true) (hG:nz P G) (hf:P.funcs[f]? =some fn)
  (hc:fn.body.bind (pm P lv fn.ntmps)=some s) (hr:Dc P lv fn.results.toList=some es) (hn:args.length<=fn.ntmps)
  (Hw:wpS G s (Jn es R) (vH 0 args LV) h):HC P f args h R:=by
 letI:DS:=⟨[]⟩
 intro w hw
 subst hw
 obtain⟨c,hb,hc⟩:=iC.1 hc
 have R0:uL lv fn.ntmps {tmps:=args.toArray++Array.replicate (fn.ntmps - args.toArray.size) undef,defers:=[]} (vH 0 args LV) w.heap []:=by
  refine⟨λi _=> ?_,by simp;omega,rfl,λ_ _ hf=>(by cases hf),λ_ _ hf=>(by cases hf),λ_ _ hf=>(by cases hf),λ_ _ hf=>(by cases hf),by simp⟩
  rw[JY]
  simp only[gQ,bZ,bY,Nat.sub_zero,LV]
  rw[dA,Array.getElem?_append]
  simp only[gp,List.getElem?_toArray]
  split
  ·rw[aO]
  ·simp only[Array.getElem?_replicate]
   split<;>rfl
 refine calls_of_wp hf hb (wp_mono (vG hG hmix c s _ _ _ w w hc R0 (oZ.refl w) Hw) λe a' w' hq=> ?_)
 cases e with
 |normal=>obtain⟨hk,σ',R',hok,hR⟩:=hq;exact⟨(show a'.defers=[]from R'.df),_,SS R' hr hok,hk,hR⟩
 |ret=>obtain⟨hk,σ',R',hok,hR⟩:=hq;exact⟨(show a'.defers=[]from R'.df),_,SS R' hr hok,hk,hR⟩
 |panic c=>obtain⟨hk,hd,hR⟩:=hq;exact⟨(show a'.defers=[]from hd),hk,hR⟩
 |exit i=>obtain⟨_,_,_,hf⟩:=hq;exact hf.elim
 |goto l=>obtain⟨_,_,_,hf⟩:=hq;exact hf.elim
 |outgrown=>exact hq.elim
/-! ### Rules -/
theorem kH {α:Type} {s:S} (I:α->lm->H->Prop) (μ:α->Nat) (x:α) (h0:I x σ h)
  (round: ∀x σ h,I x σ h->wpS G s (Ak (λσ' h'=> ∃y,I y σ' h'/\μ y<μ x) Q) σ h):wpS G (.loop s) Q σ h:=⟨α,I,μ,x,h0,round⟩
end
end Go.Ev
namespace Go.Ev
section
set_option linter.unusedVariables false
variable {P:Program} {G:mG} {σ:lm} {h:H} {Q:qm} {R:Ending->H->Prop}
theorem agA{l:List St}:wpS G (.sts l) Q σ h=mf G l (Q .normal) (pQ Q) σ h:=(rfl)
theorem aeZ:wpS G .skip Q σ h=Q .normal σ h:=(rfl)
theorem agB{a b:S}:wpS G (.seq a b) Q σ h=wpS G a (Ak (wpS G b Q) Q) σ h:=(rfl)
theorem Vs{c:Prop} [Decidable c]{a b:Prop}:(if c then a else b)=((c->a)/\(¬c->b)):=by
 by_cases h:c<;>simp [h]
theorem ae0{t:Nat}{a b:S}:wpS G (.cond t a b) Q σ h=(qw (σ t)=true/\if tb (σ t)=true then wpS G a Q σ h else wpS G b Q σ h):=by
 rw[Vs,iM];rfl
theorem SV{s:S}(M:lm->H->Prop)(hs:wpS G s (Ak M Q) σ h)(hM: ∀σ' h',M σ' h'->Q .normal σ' h'):wpS G (.join s) Q σ h:=⟨M,hs,hM⟩
theorem acI{id:Nat}{s:S}:wpS G (.block id s) Q σ h=wpS G s (Db id Q) σ h:=(rfl)
theorem ae1{id:Nat}:wpS G (.exit id) Q σ h=Q (.exit id) σ h:=(rfl)
theorem agC:wpS G .ret Q σ h=Q .ret σ h:=(rfl)
theorem acJ{s:S}:wpS G (.scope s) Q σ h=wpS G s (SK Q) σ h:=(rfl)
theorem agD{K:lm->H->Prop}{KP:List PanicEntry->H->Prop}:mf G [] K KP σ h=K σ h:=(rfl)
theorem agE{K:lm->H->Prop}{KP:List PanicEntry->H->Prop}{d:Nat}{e:E}{r:List St}:mf G (.set d e::r) K KP σ h=mf G r K KP (kF σ d (val e σ h)) h:=(rfl)
theorem agF{K:lm->H->Prop}{KP:List PanicEntry->H->Prop}{gs:Gs}{c:Chk}{r:List St}:mf G (.chk gs c::r) K KP σ h=((if BP gs σ h=true then xG c σ h else True)/\mf G r K KP σ h):=by
 rw[Vs];simp [mf,ZB]
def sP(G:mG)(f:F)(d:Option Nat)(st:uw)(r:List St)(K:lm->H->Prop)(KP:List PanicEntry->H->Prop)(vs:List Value)(σ:lm)(h:H):Prop:=
 rT G f vs h (λv h'=>nS st σ h h'/\mf G r K KP (qU σ d v) h') KP
theorem agG{K:lm->H->Prop}{KP:List PanicEntry->H->Prop}{d:Option Nat}{f:F}{xs:List E}{st:uw}{r:List St}:mf G (.eff [] d f xs st::r) K KP σ h=sP G f d st r K KP (xs.map λe=>val e σ h) σ h:=by
 simp [mf,ZB,BP,sP]
theorem ae2{K:lm->H->Prop}{KP:List PanicEntry->H->Prop}{d:Option Nat}{f:F}{xs:List E}{st:uw}{r:List St}{g:E×Bool}{gs:Gs}:mf G (.eff (g::gs) d f xs st::r) K KP σ h=
  (if BP (g::gs) σ h=true then sP G f d st r K KP (xs.map λe=>val e σ h) σ h else mf G r K KP (qU σ d undef) h):=by
 rw[Vs,iM];rfl
theorem acK{K:lm->H->Prop}:Ak K Q .normal σ h=K σ h:=(rfl)
theorem acL{K:lm->H->Prop}{i:Nat}:Ak K Q (.exit i) σ h=Q (.exit i) σ h:=(rfl)
theorem acM{K:lm->H->Prop}:Ak K Q .ret σ h=Q .ret σ h:=(rfl)
theorem acN{K:lm->H->Prop}{c:List PanicEntry}:Ak K Q (.panic c) σ h=Q (.panic c) σ h:=(rfl)
theorem acO{id:Nat}:Db id Q .normal σ h=Q .normal σ h:=(rfl)
theorem acP{id i:Nat}:Db id Q (.exit i) σ h=if i=id then Q .normal σ h else Q (.exit i) σ h:=(rfl)
theorem acQ{id:Nat}:Db id Q .ret σ h=Q .ret σ h:=(rfl)
theorem ae3:SK Q .ret σ h=Q .ret σ h:=(rfl)
theorem acR{es:Jl}:Jn es R .normal σ h=(wM es σ h/\R (.returned (one (es.map λe=>val e.2 σ h))) h):=(rfl)
theorem acS{es:Jl}:Jn es R .ret σ h=(wM es σ h/\R (.returned (one (es.map λe=>val e.2 σ h))) h):=(rfl)
theorem acT{es:Jl}{c:List PanicEntry}:Jn es R (.panic c) σ h=R (.panicked c) h:=(rfl)
theorem adj{d i:Nat}{v:Value}:kF σ d v i=if i=d then v else σ i:=rfl
theorem agb(l:List UInt8):bl (.string ⟨l.toArray⟩)=l:=rfl
theorem acU(a b:List UInt8):(str a=str b)=(a=b):=by
 unfold str;simp
theorem ahU{n:Int}(h1: -9223372036854775808<=n)(h2:n<=9223372036854775807):IntKind.i64.wrap n=n:=by
 rw[IntWalk.i64_left];exact IntWalk.wrap64_in n ⟨h1,h2⟩
theorem ahV(b:Bool):tb (.bool b)=b:=(rfl)
theorem ZK(b:Bool):qw (.bool b)=true:=(rfl)
theorem ae4(b:Bool):Xu (.bool b) true=b:=by cases b<;>rfl
theorem ae5(b:Bool):Xu (.bool b) false= !b:=by cases b<;>rfl
theorem agH{σ:lm}{h:H}:BP [] σ h=true:=(rfl)
theorem agI{σ:lm}{h:H}{e:E}{b:Bool}{g:Gs}:BP ((e,b)::g) σ h=(Xu (val e σ h) b && BP g σ h):=(rfl)
theorem acV{h:H}{a:Addr}:s1 .nilck (.pointer (some a)) h=True:=(rfl)
theorem ae6{h:H}{a:Addr}{n:Nat}:s1 (.fld n) (.pointer (some a)) h=True:=(rfl)
theorem agJ{h:H}{b o n:Nat}:v1 (.fld n) (.pointer (some ⟨b,o,none⟩)) h= .pointer (some ⟨b,o+n,none⟩):=by simp [v1,Xz]
theorem ae7{h:H}{b o:Nat}:s1 .ld1 (.pointer (some ⟨b,o,none⟩)) h=(o<hsz h b):=(rfl)
theorem ae8{h:H}{b o n:Nat}:s1 (.ldn n) (.pointer (some ⟨b,o,none⟩)) h=(o+n<=hsz h b):=(rfl)
theorem agK{h:H}{b o:Nat}:v1 .ld1 (.pointer (some ⟨b,o,none⟩)) h=hv h b o:=(rfl)
theorem agL{h:H}{b o n:Nat}:v1 (.ldn n) (.pointer (some ⟨b,o,none⟩)) h= .agg (sO h b o n).toArray:=(rfl)
theorem ae9{h:H}(b:Bool):s1 .not (.bool b) h=True:=by simp [s1,qw]
theorem agM{h:H}(b:Bool):v1 .not (.bool b) h= .bool !b:=(rfl)
theorem afa{h:H}(k:IntKind)(n:Int):s1 .neg (.int k n) h=True:=by simp [s1,lI]
theorem agN{h:H}(k:IntKind)(n:Int):v1 .neg (.int k n) h= .int k (k.wrap (0 - n)):=(rfl)
theorem acW{h:H}(l:List UInt8):s1 .lens (str l) h=True:=by simp [s1]
theorem afb{h:H}(l:List UInt8):v1 .lens (str l) h= .int .i64 l.length:=(rfl)
theorem afc{h:H}(a:Option Addr)(n c:Nat):s1 .len (.slice a n c) h=True:=by simp [s1,ZT]
theorem agO{h:H}(a:Option Addr)(n c:Nat):v1 .len (.slice a n c) h= .int .i64 n:=(rfl)
theorem acX{h:H}(j k:IntKind)(n:Int):s1 (.conv j) (.int k n) h=True:=by simp [s1,lI]
theorem afd{h:H}(j k:IntKind)(n:Int):v1 (.conv j) (.int k n) h= .int j (j.wrap n):=(rfl)
theorem afe{h:H}(k:IntKind)(a b:Int):s2 (.bin .eql) (.int k a) (.int k b) h=True:=by simp [s2,lI,tk,uI]
theorem agP{h:H}(k:IntKind)(a b:Int):v2 (.bin .eql) (.int k a) (.int k b) h= .bool (decide (a=b)):=(rfl)
theorem aff{h:H}(k:IntKind)(a b:Int):s2 (.bin .neq) (.int k a) (.int k b) h=True:=by simp [s2,lI,tk,uI]
theorem agQ{h:H}(k:IntKind)(a b:Int):v2 (.bin .neq) (.int k a) (.int k b) h= .bool (!decide (a=b)):=(rfl)
theorem afg{h:H}(k:IntKind)(a b:Int):s2 (.bin .lss) (.int k a) (.int k b) h=True:=by simp [s2,lI,tk,uI]
theorem agR{h:H}(k:IntKind)(a b:Int):v2 (.bin .lss) (.int k a) (.int k b) h= .bool (decide (a<b)):=(rfl)
theorem afh{h:H}(k:IntKind)(a b:Int):s2 (.bin .leq) (.int k a) (.int k b) h=True:=by simp [s2,lI,tk,uI]
theorem agS{h:H}(k:IntKind)(a b:Int):v2 (.bin .leq) (.int k a) (.int k b) h= .bool (decide (a<=b)):=(rfl)
theorem afi{h:H}(k:IntKind)(a b:Int):s2 (.bin .gtr) (.int k a) (.int k b) h=True:=by simp [s2,lI,tk,uI]
theorem agT{h:H}(k:IntKind)(a b:Int):v2 (.bin .gtr) (.int k a) (.int k b) h= .bool (decide (b<a)):=(rfl)
theorem afj{h:H}(k:IntKind)(a b:Int):s2 (.bin .geq) (.int k a) (.int k b) h=True:=by simp [s2,lI,tk,uI]
theorem agU{h:H}(k:IntKind)(a b:Int):v2 (.bin .geq) (.int k a) (.int k b) h= .bool (decide (b<=a)):=(rfl)
theorem afk{h:H}(k:IntKind)(a b:Int):s2 (.bin .add) (.int k a) (.int k b) h=True:=by simp [s2,lI,tk,uI,vR]
theorem agV{h:H}(k:IntKind)(a b:Int):v2 (.bin .add) (.int k a) (.int k b) h= .int k (k.wrap (a+b)):=(rfl)
theorem ZL{h:H}(k:IntKind)(a b:Int):s2 (.bin .sub) (.int k a) (.int k b) h=True:=by simp [s2,lI,tk,uI,vR]
theorem agW{h:H}(k:IntKind)(a b:Int):v2 (.bin .sub) (.int k a) (.int k b) h= .int k (k.wrap (a - b)):=(rfl)
theorem afl{h:H}(k:IntKind)(a b:Int):s2 (.bin .mul) (.int k a) (.int k b) h=True:=by simp [s2,lI,tk,uI,vR]
theorem agX{h:H}(k:IntKind)(a b:Int):v2 (.bin .mul) (.int k a) (.int k b) h= .int k (k.wrap (a*b)):=(rfl)
theorem afm{h:H}(k:IntKind)(a b:Int):s2 (.bin .quo) (.int k a) (.int k b) h=(b≠0):=by simp [s2,lI,tk,uI,vR,ti]
theorem agY{h:H}(k:IntKind)(a b:Int):v2 (.bin .quo) (.int k a) (.int k b) h= .int k (k.wrap (a.tdiv b)):=(rfl)
theorem afn{h:H}(k:IntKind)(a b:Int):s2 (.bin .rem) (.int k a) (.int k b) h=(b≠0):=by simp [s2,lI,tk,uI,vR,ti]
theorem agZ{h:H}(k:IntKind)(a b:Int):v2 (.bin .rem) (.int k a) (.int k b) h= .int k (a.tmod b):=(rfl)
theorem acY{h:H}(a b:List UInt8):s2 (.bin .eql) (str a) (str b) h=True:=by simp [s2,str,rq,uI]
theorem afo{h:H}(a b:List UInt8):v2 (.bin .eql) (str a) (str b) h= .bool (decide (a=b)):=(rfl)
theorem acZ{h:H}(a b:List UInt8):s2 (.bin .neq) (str a) (str b) h=True:=by simp [s2,str,rq,uI]
theorem afp{h:H}(a b:List UInt8):v2 (.bin .neq) (str a) (str b) h= .bool (!decide (a=b)):=(rfl)
theorem afq{h:H}(n a b:Bool):s2 (.eqb n) (.bool a) (.bool b) h=True:=by simp [s2,qw]
theorem ag0{h:H}(a b:Bool):v2 (.eqb false) (.bool a) (.bool b) h= .bool (decide (a=b)):=(rfl)
theorem ag1{h:H}(a b:Bool):v2 (.eqb true) (.bool a) (.bool b) h= .bool (!decide (a=b)):=(rfl)
theorem ac0{h:H}(l:List UInt8)(k:IntKind)(i:Int):s2 .idxS (str l) (.int k i) h=(0<=i/\i<l.length):=by simp [s2,lI,ti]
theorem afr{h:H}(l:List UInt8)(k:IntKind)(i:Int):v2 .idxS (str l) (.int k i) h= .int .u8 (l.getD i.toNat 0).toNat:=(rfl)
theorem ac1{h:H}(m:Nat)(a:Addr)(n c:Nat)(k:IntKind)(i:Int):s2 (.idxA m) (.slice (some a) n c) (.int k i) h=(0<=i/\i<n):=by simp [s2,lI,ti]
theorem afs{h:H}(m b o:Nat)(n c:Nat)(k:IntKind)(i:Int):v2 (.idxA m) (.slice (some ⟨b,o,none⟩) n c) (.int k i) h= .pointer (some ⟨b,o+i.toNat*m,none⟩):=by simp [v2,ti,Xz]
theorem ZM{h:H}(l:List UInt8)(k:IntKind)(i:Int):s2 .subLo (str l) (.int k i) h=(0<=i/\i<=l.length):=by simp [s2,lI,ti]
theorem ac3{h:H}(l:List UInt8)(k:IntKind)(i:Int):v2 .subLo (str l) (.int k i) h=str (l.drop i.toNat):=(rfl)
theorem ZN{h:H}(l:List UInt8)(k:IntKind)(i:Int):s2 .subHi (str l) (.int k i) h=(0<=i/\i<=l.length):=by simp [s2,lI,ti]
theorem ac4{h:H}(l:List UInt8)(k:IntKind)(i:Int):v2 .subHi (str l) (.int k i) h=str (l.take i.toNat):=(rfl)
theorem ac5{h:H}(l:List UInt8)(k k':IntKind)(i j:Int):s3 .sub (str l) (.int k i) (.int k' j) h=(0<=i/\i<=j/\j<=l.length):=by simp [s3,lI,ti]
theorem afu{h:H}(l:List UInt8)(k k':IntKind)(i j:Int):v3 .sub (str l) (.int k i) (.int k' j) h=str ((l.take j.toNat).drop i.toNat):=(rfl)
theorem ac6{h:H}(c:Bool)(a b:Value):s3 .pick (.bool c) a b h=True:=by simp [s3,qw]
theorem ac7{h:H}(a b:Value):v3 .pick (.bool true) a b h=a:=(rfl)
theorem ac8{h:H}(a b:Value):v3 .pick (.bool false) a b h=b:=(rfl)
theorem ag2{h:H}(c b:Bool):v3 .pick (.bool c) (.bool true) (.bool b) h= .bool (c || b):=by cases c<;>rfl
theorem afv{h:H}(c b:Bool):v3 .pick (.bool c) (.bool b) (.bool false) h= .bool (c && b):=by cases c<;>rfl
theorem ZO{h:H}(m:Nat)(a:Option Addr)(n c:Nat)(k:IntKind)(i:Int):s2 (.cutHi m) (.slice a n c) (.int k i) h=(0<=i/\i<=c):=by simp [s2,lI,ti]
theorem ac9{h:H}(m:Nat)(a:Option Addr)(n c:Nat)(k:IntKind)(i:Int):v2 (.cutHi m) (.slice a n c) (.int k i) h= .slice a i.toNat c:=(rfl)
theorem afw{σ:lm}{d:Nat}{v:Value}:qU σ (some d) v=kF σ d v:=(rfl)
theorem afx{σ:lm}{v:Value}:qU σ none v=σ:=(rfl)
theorem Vt{σ:lm}{h h':H}:nS [] σ h h'=True:=by simp [nS]
theorem kY{σ:lm}{h h':H}:nS [] σ h h':=by rw[Vt];trivial
theorem ada{σ:lm}{h h':H}{p:Gs×E×Option Nat}{l:uw}:nS (p::l) σ h h'=((BP p.1 σ h=true->rJ (val p.2.1 σ h) p.2.2 h h')/\nS l σ h h'):=by simp [nS]
theorem adb{h h':H}{b o:Nat}:rJ (.pointer (some ⟨b,o,none⟩)) none h h'=(o<hsz h' b/\hv h' b o=hv h b o):=(rfl)
theorem adc{h h':H}{b o n:Nat}:rJ (.pointer (some ⟨b,o,none⟩)) (some n) h h'=(o+n<=hsz h' b/\sO h' b o n=sO h b o n):=(rfl)
theorem afy{k:Nat}{σ:lm}:vH k [] σ=σ:=(rfl)
theorem afz{k:Nat}{a:Value}{l:List Value}{σ:lm}:vH k (a::l) σ=vH (k+1) l (kF σ k a):=(rfl)
theorem afA{σ:lm}{h:H}:wM [] σ h=True:=(rfl)
theorem afB{e:E}{l:Jl}{σ:lm}{h:H}:wM ((none,e)::l) σ h=wM l σ h:=(rfl)
theorem afC{c:Chk}{e:E}{l:Jl}{σ:lm}{h:H}:wM ((some c,e)::l) σ h=(xG c σ h/\wM l σ h):=(rfl)
theorem afD{v:Value}:one [v]=v:=(rfl)
theorem afE:one []= .tuple #[]:=(rfl)
theorem afF{a b:Value}{l:List Value}:one (a::b::l)= .tuple (a::b::l).toArray:=(rfl)
theorem wo{G:mG}{d:Option Nat}{st:uw}{r:List St}{K:lm->H->Prop}{KP:List PanicEntry->H->Prop}{σ:lm}{h:H}{f:FuncId}{vs:List Value}:sP G (.call f) d st r K KP vs σ h=G f vs h (λv h'=>nS st σ h h'/\mf G r K KP (qU σ d v) h') KP:=(rfl)
theorem ag3{G:mG}{d:Option Nat}{st:uw}{r:List St}{K:lm->H->Prop}{KP:List PanicEntry->H->Prop}{σ:lm}{h:H}{t:TypeId}{v:Value}:sP G (.box t) d st r K KP [v] σ h=(nS st σ h (h.push (.cells v.cells t))/\mf G r K KP (qU σ d (.pointer (some ⟨h.size,0,none⟩))) (h.push (.cells v.cells t))):=(rfl)
theorem ade{G:mG}{d:Option Nat}{st:uw}{r:List St}{K:lm->H->Prop}{KP:List PanicEntry->H->Prop}{σ:lm}{h:H}{t:TypeId}{z:Array Value}:sP G (.alloc t z) d st r K KP [] σ h=(nS st σ h (h.push (.cells z t))/\mf G r K KP (qU σ d (.pointer (some ⟨h.size,0,none⟩))) (h.push (.cells z t))):=(rfl)
theorem adf{G:mG}{d:Option Nat}{st:uw}{r:List St}{K:lm->H->Prop}{KP:List PanicEntry->H->Prop}{σ:lm}{h:H}{n b o:Nat}{v:Value}:sP G (.store n) d st r K KP [.pointer (some ⟨b,o,none⟩),v] σ h=(v.cells.size=n/\o+n<=hsz h b/\(o+n<=(wH h b).1\/(wH h b).2<=o)/\v.cells.toList.all mg=true/\nS st σ h (kU h b o v.cells.toList)/\mf G r K KP (qU σ d undef) (kU h b o v.cells.toList)):=(rfl)
theorem ag4{G:mG}{d:Option Nat}{st:uw}{r:List St}{K:lm->H->Prop}{KP:List PanicEntry->H->Prop}{σ:lm}{h:H}{t:TypeId}{v:Value}:sP G .pnc d st r K KP [.iface t v] σ h=KP [{v:= .iface t v,recovered:=false}] h:=(rfl)
theorem ahW{K:Value->H->Prop}{KP:List PanicEntry->H->Prop}{v:Value}{h:H}:ym K KP (.returned v) h=K v h:=(rfl)
theorem ahX{K:Value->H->Prop}{KP:List PanicEntry->H->Prop}{c:List PanicEntry}{h:H}:ym K KP (.panicked c) h=KP c h:=(rfl)
theorem ahY{Q:qm}{c:List PanicEntry}{h:H}:pQ Q c h=Q (.panic c) (λ_=>undef) h:=(rfl)
def cbP(n:Nat)(σ:lm)(h:H):List (Nat×Nat×E)->Prop
 |[]=>True
 |(o,l,x)::r=>(val x σ h).cells.size=l/\o+l<=n/\cbP n σ h r
theorem ag5{n:Nat}{σ:lm}{h:H}:cbP n σ h []=True:=(rfl)
theorem ag6{n o l:Nat}{σ:lm}{h:H}{x:E}{r:List (Nat×Nat×E)}:cbP n σ h ((o,l,x)::r)=((val x σ h).cells.size=l/\o+l<=n/\cbP n σ h r):=(rfl)
theorem afH{n:Nat}{ps:List (Nat×Nat×E)}{σ:lm}{h:H}:xG (.cb n ps) σ h=cbP n σ h ps:=by
 induction ps with
 |nil=>simp [xG,cbP]
 |cons p r ih=>obtain⟨o,l,x⟩:=p;simp only[xG]at ih;simp only[xG,cbP,List.forall_mem_cons,<-ih,and_assoc]
theorem afI{q:Q1}{a:E}{σ:lm}{h:H}:xG (.c1 q a) σ h=s1 q (val a σ h) h:=(rfl)
theorem afJ{q:Q2}{a b:E}{σ:lm}{h:H}:xG (.c2 q a b) σ h=s2 q (val a σ h) (val b σ h) h:=(rfl)
theorem afK{q:Q3}{a b c:E}{σ:lm}{h:H}:xG (.c3 q a b c) σ h=s3 q (val a σ h) (val b σ h) (val c σ h) h:=(rfl)
/-! ### Rows of cells as lists -/
theorem afL{h:H}(l:List Value)(i:Nat):s1 (.ext i) (.tuple l.toArray) h=(i<l.length):=by simp [s1]
theorem ag7{h:H}(l:List Value)(i:Nat):v1 (.ext i) (.tuple l.toArray) h=l.getD i undef:=by simp [v1,aO]
theorem adg{h:H}(l:List Value)(i:Nat):s1 (.part i) (.agg l.toArray) h=(i<l.length):=by simp [s1]
theorem afM{h:H}(l:List Value)(i:Nat):v1 (.part i) (.agg l.toArray) h=l.getD i undef:=by simp [v1,aO]
def OV:List Value->Nat->List Value->List Value
 |l,_,[]=>l
 |l,o,v::r=>OV (l.set o v) (o+1) r
theorem Gf(o:Nat): ∀(m:List Value) (k:Nat) (l:List Value),(m.zipIdx k).foldl (fun(cs:Array Value) p=>cs.setIfInBounds (o+p.2) p.1) l.toArray=(OV l (o+k) m).toArray
 |[],_,_=>rfl
 |v::r,k,l=>by
  simp only[List.zipIdx_cons,eP,List.setIfInBounds_toArray,OV]
  exact Gf o r (k+1) _
theorem OW(l m:List Value)(o:Nat):yK l.toArray o (.agg m.toArray)=(OV l o m).toArray:=by
 unfold yK
 show(m.toArray.zipIdx).foldl _ _=_
 rw[<-gV,Array.toList_zipIdx]
 exact Gf o m 0 l
theorem yJ{v:Value}(hv:v.cells= #[v])(l:List Value)(o:Nat):yK l.toArray o v=(l.set o v).toArray:=by
 unfold yK;rw[hv];simp
theorem ag8{h:H}(l m:List Value)(o n:Nat):v2 (.put o n) (.agg l.toArray) (.agg m.toArray) h= .agg (OV l o m).toArray:=by simp only[v2,OW]
theorem ZP(k:IntKind)(n:Int):(Value.int k n).cells= #[.int k n]:=rfl
theorem SX(b:Bool):(Value.bool b).cells= #[.bool b]:=rfl
theorem ZQ(l:List UInt8):(str l).cells= #[str l]:=rfl
theorem agd(l:List UInt8):Value.cells.match_1 (λ_=>Array Value) (str l) (λcs=>cs) (λv=> #[v])= #[str l]:=rfl
theorem LW(a:Option Addr)(n c:Nat):(Value.slice a n c).cells= #[.slice a n c]:=rfl
theorem ahG(a:Option Addr):(Value.pointer a).cells= #[.pointer a]:=rfl
theorem ahH(c:Array Value):(Value.agg c).cells=c:=rfl
theorem ag9{h:H}(l:List Value)(o n:Nat)(k:IntKind)(i:Int):v2 (.put o n) (.agg l.toArray) (.int k i) h= .agg (l.set o (.int k i)).toArray:=by simp only[v2,yJ (ZP k i)]
theorem afN{h:H}(l:List Value)(o n:Nat)(b:Bool):v2 (.put o n) (.agg l.toArray) (.bool b) h= .agg (l.set o (.bool b)).toArray:=by simp only[v2,yJ (SX b)]
theorem aha{h:H}(l:List Value)(o n:Nat)(s:List UInt8):v2 (.put o n) (.agg l.toArray) (str s) h= .agg (l.set o (str s)).toArray:=by simp only[v2,yJ (ZQ s)]
theorem adh{h:H}(l:List Value)(o n:Nat)(a:Option Addr)(m c:Nat):v2 (.put o n) (.agg l.toArray) (.slice a m c) h= .agg (l.set o (.slice a m c)).toArray:=by simp only[v2,yJ (LW a m c)]
theorem ahI(k:IntKind)(n:Int):mg (.int k n)=true:=rfl
theorem age(b:Bool):mg (.bool b)=true:=rfl
theorem ahJ(l:List UInt8):mg (str l)=true:=rfl
theorem aet(a:Option Addr)(n c:Nat):mg (.slice a n c)=true:=rfl
theorem ah1(a:Option Addr):mg (.pointer a)=true:=rfl
/-! ### The heap behind a push and a store -/
theorem pq{h:H}{x:Obj}{b:Nat}(hb:b≠h.size):(h.push x)[b]? =h[b]? :=by rw[Array.getElem?_push,ah hb]
theorem vI{h:H}{x:Obj}:(h.push x)[h.size]? =some x:=by simp
theorem ZR{h:H}{x:Obj}{b o:Nat}(hb:b<h.size):hv (h.push x) b o=hv h b o:=by unfold hv hc;rw[pq (by omega)]
theorem LX{h:H}{x:Obj}{b:Nat}(hb:b<h.size):hsz (h.push x) b=hsz h b:=by unfold hsz;rw[pq (by omega)]
theorem LY{h:H}{x:Obj}{b:Nat}(hb:b<h.size):wH (h.push x) b=wH h b:=by unfold wH;rw[pq (by omega)]
theorem LZ{h:H}{c:List Value}{t:TypeId}{f:Nat×Nat}{k o:Nat}(hk:k=h.size):hv (h.push (.cells c.toArray t f)) k o=c.getD o undef:=by
 subst hk
 unfold hv hc;rw[vI];simp [aO]
theorem Fx{h:H}{c:List Value}{t:TypeId}{f:Nat×Nat}{k:Nat}(hk:k=h.size):hsz (h.push (.cells c.toArray t f)) k=c.length:=by subst hk;unfold hsz;rw[vI];simp
theorem Fy{h:H}{c:Array Value}{t:TypeId}{f:Nat×Nat}{k:Nat}(hk:k=h.size):wH (h.push (.cells c t f)) k=f:=by subst hk;unfold wH;rw[vI]
theorem yj{h:H}{x:Obj}:(h.push x).size=h.size+1:=by simp
theorem De{h:H}{b o k:Nat}{v:Value}:hsz (lh h b o v) k=hsz h k:=Vx h b o v k
theorem Ma{h:H}{b o k:Nat}{v:Value}:wH (lh h b o v) k=wH h k:=Vy h b o v k
theorem qz{h:H}{b o:Nat}{v:Value}:(lh h b o v).size=h.size:=by simp [lh]
theorem zz:(∀{h:H} {b o:Nat} {v:Value},(lh h b o v).size=h.size)/\(∀{h:H} {x:Obj},(h.push x).size=h.size+1)/\(∀{h:H} {b o k:Nat} {v:Value},hsz (lh h b o v) k=hsz h k)/\(∀{α:Type} {a:α} {l:List α},(a::l).length=l.length+1)/\ ∀{α:Type},([]:List α).length=0:=⟨qz,yj,De,rfl,rfl⟩
theorem OX{h:H}{b o k i:Nat}{v:Value}(hb:o<hsz h b):hv (lh h b o v) k i=if k=b/\i=o then v else hv h k i:=by
 unfold hv hc
 rw[nZ]
 by_cases hk:k=b
 ·subst hk
  rw[ay rfl]
  unfold hsz at hb
  cases hx:h[k]? with
  |none=>simp [hx]at hb
  |some x=>
   cases x<;>simp only[hx,gQ]at hb
   rename_i c e f
   simp only[bH,dN]
   by_cases hi:i=o
   ·subst hi;simp [hb]
   ·rw[ah hi,eH (iB hi)]
 ·rw[ah hk,ah (by simp [hk])]
theorem SY(h:H)(b o:Nat)(v u:Value):lh (lh h b o v) b o u=lh h b o u:=by
 apply gW
 intro k
 rw[nZ,nZ,nZ h b o u]
 by_cases hk:k=b
 ·subst hk
  simp only[dx]
  cases h[k]? with
  |none=>rfl
  |some x=>cases x<;>simp [Array.setIfInBounds_setIfInBounds]
 ·simp [hk,nZ]
theorem Xt{h:H}{b o:Nat}(hb:o<hsz h b):lh h b o (hv h b o)=h:=by
 apply gW
 intro k
 rw[nZ]
 by_cases hk:k=b
 ·subst hk
  unfold hsz at hb;unfold hv hc
  cases hx:h[k]? with
  |none=>simp [hx]at hb
  |some x=>
   cases x<;>simp only[hx,gQ]at hb
   rename_i c e f
   simp only[dx,bH,bQ,Obj.cells.injEq,aP]
   apply Array.ext (by simp)
   intro i h1 h2
   rw[Array.getElem_setIfInBounds (by simpa using h1)]
   by_cases hi:o=i
   ·subst hi;simp [h2]
   ·simp [hi]
 ·simp [hk]
theorem Gg(h:H)(c:List Value)(t:TypeId)(f:Nat×Nat)(k o:Nat)(v:Value)(hk:k=h.size):lh (h.push (.cells c.toArray t f)) k o v=h.push (.cells (c.set o v).toArray t f):=by
 subst hk
 apply gW
 intro k
 rw[nZ]
 by_cases hk:k=h.size
 ·subst hk;simp
 ·rw[ah hk,pq hk,pq hk]
theorem JZ(h:H)(x:Obj)(b o:Nat)(v:Value)(hb:b<h.size):lh (h.push x) b o v=(lh h b o v).push x:=by
 apply gW
 intro k
 rw[nZ]
 by_cases hk:k=b
 ·subst hk
  rw[ay rfl,pq (by omega),pq (by simp [lh];omega),nZ,ay rfl]
 ·rw[ah hk]
  by_cases hk2:k=h.size
  ·subst hk2
   have:h.size=(lh h b o v).size:=by simp [lh]
   rw[vI];conv=>rhs;rw[this]
   rw[vI]
  ·rw[pq hk2,pq (by simp [lh];exact hk2),nZ,ah hk]
theorem Ta{h:H}{b o:Nat}{v:Value}:kU h b o [v]=lh h b o v:=(rfl)
theorem Es(h:H)(t:TypeId)(f:Nat×Nat)(k:Nat)(hk:k=h.size): ∀(c l:List Value) (o:Nat),kU (h.push (.cells c.toArray t f)) k o l=h.push (.cells (OV c o l).toArray t f)
 |c,[],o=>rfl
 |c,v::l,o=>by rw[kU,Gg h c t f k o v hk,Es h t f k hk (c.set o v) l (o+1)];rfl
theorem Gh(x:Obj)(b:Nat): ∀(l:List Value) (h:H) (o:Nat),b<h.size->kU (h.push x) b o l=(kU h b o l).push x
 |[],h,o,_=>rfl
 |v::l,h,o,hb=>by rw[kU,JZ h x b o v hb,Gh x b l (lh h b o v) (o+1) (by simpa [lh]using hb)];rfl
theorem afO(k n:Nat):((k:Int)+(n:Int)).toNat=k+n:=by omega
theorem adi(k n:Nat):((k:Int)+(no_index (OfNat.ofNat n):Int)).toNat=k+n:=by
 show((k:Int)+(n:Int)).toNat=k+n
 omega
attribute [go_sem low] Vs
attribute [go_sem] ag4 ac5 ahV ZK ae4 ae5 agH agI acV ae6 agJ ae7 ae8 agK agL ae9 agM afa agN acW afb afc agO afL ag7 adg afM ZP SX ZQ agd LW ahG ahH ag9 afN aha adh ag8 OV ahI age ahJ aet ah1 kr iX aM bg gp bP cZ gL eU gN jR jh List.all_nil aN acX afd afe agP aff agQ afg agR afh agS afi agT afj agU afk agV ZL agW afl agX afm agY afn agZ acY afo acZ afp afq ag0 ag1 ac0 afr ac1 afs ZM ac3 ZN ac4 ZL afu ac6 ac7 ac8 iM ag2 afv ZO ac9 afw afx Vt ada adb adc afy afz afA afB afC afD afE afF ag3 ade adf ahW ahX ahY agA aeZ agB ae0 acI ae1 agC acJ agD agE agF agG ae2 acK acL acM acN acO acP acQ ae3 acR acS acT adj val afI afJ afK afH ag5 ag6 agb acU Gg JZ ZR LX LY LZ Fx Fy yj De Ma qz SY Ta Es Gh afO adi
def zg(n:Nat)(e:E):St:= .chk [] (.c1 (.fld n) e)
def zh(e:E):St:= .chk [] (.c1 .ld1 e)
def zx(n:Nat)(a b:E):St:= .chk [] (.c2 (.idxA n) a b)
def zq(o:BinOp)(a b:E):St:= .chk [] (.c2 (.bin o) a b)
def zk(q:Q1)(e:E):St:= .chk [] (.c1 q e)
def zl(e:E):E:= .o1 .ld1 e
def zf(n:Nat)(e:E):E:= .o1 (.fld n) e
def zi(n:Nat)(a b:E):E:= .o2 (.idxA n) a b
def zb(o:BinOp)(a b:E):E:= .o2 (.bin o) a b
def zv(n:Int):E:= .c (.int .i64 n)
attribute [go_sem] zg zh zx zq zk zl zf zi zb zv
attribute [go_sem] false_or or_false true_or or_true Int.natCast_inj aG Value.int.injEq Value.bool.injEq and_assoc exists_and_left exists_eq_left' exists_eq_left exists_const Value.pointer.injEq bQ Addr.mk.injEq dN aP true_implies false_and and_false implies_true dx bZ fu jk aV bF cu bY dO not_false_eq_true not_true_eq_false bf decide_eq_false_iff_not Bool.not_eq_true' Bool.not_eq_false' bA fq gy dB eT imp_false forall_const false_implies ji fH eq_self ne_eq Bool.decide_eq_true
attribute [go_sem] Nat.reduceEqDiff Nat.reduceAdd Nat.reduceSub Nat.reduceMul Nat.reduceLT Nat.reduceLeDiff Int.reduceLE Int.reduceLT Int.reduceEq Int.reduceToNat Int.reduceNeg Int.reduceAdd Int.cast_ofNat_Int ahU
end
theorem mF:(∀{α:Type} (l:List α),(Array.mk l)=l.toArray)/\ ∀l:List UInt8,Value.string (ByteArray.mk l.toArray)=str l:=⟨λ_=>rfl,λ_=>rfl⟩
section
variable {P:Program} {lv:Nat->Bool} {N:Nat} {a b:Code} {x y:S}
theorem c0{fn:Func}{c:Code}(h:fn.body=some c)(h2:pm P lv N c=some x):fn.body.bind (pm P lv N)=some x:=by rw[h];exact h2
theorem cV(k:Nat)(s:S){o d}(h:pm P lv N (.region k o d)=some s):pm P lv N (.region k o d)=some s:=h
theorem cS(h1:pm P lv N a=some x)(h2:pm P lv N b=some y):pm P lv N (.seq a b)=some (.seq x y):=by simp only[pm,h1,h2]
theorem cK{i}(h1:pm P lv N a=some x):pm P lv N (.block i a)=some (.block i x):=by simp only[pm,h1,bH]
theorem cL(h1:pm P lv N a=some x):pm P lv N (.loop a)=some (.loop x):=by simp only[pm,h1,bH]
theorem cX(h1:pm P lv N a=some x):pm P lv N (.scope a)=some (.scope x):=by simp only[pm,h1,bH]
theorem cC{t}(ht:lv t=true)(h1:pm P lv N a=some x)(h2:pm P lv N b=some y):pm P lv N (.cond (.tmp t) a b)=some (.cond t x y):=by simp only[pm,ht,h1,h2,dx]
end
theorem qd{P:Program}{n:FuncId}{C:List Value->H->(Value->H->Prop)->Prop}(x: ∀{vs h K KP},C vs h K->ma P n vs h K KP):nz P (λf vs h K _=>f=n/\C vs h K):=by
 rintro f vs h K KP ⟨rfl,c⟩
 exact x c
theorem mK{P:Program}{n:FuncId}{G:mG}{C:List Value->H->(Value->H->Prop)->Prop}(x: ∀{vs h K KP},C vs h K->ma P n vs h K KP)(y:nz P G):nz P (λf vs h K KP=>(f=n/\C vs h K)\/G f vs h K KP):=by
 rintro f vs h K KP (⟨rfl,c⟩|c)
 ·exact x c
 ·exact y _ _ _ _ _ c
def HX0(P:Program)(s:S)(e:Jl)(n:FuncId):Prop:= ∀(G:mG) (_:nz P G) {h:H} {K:Value->H->Prop} {KP:List PanicEntry->H->Prop},wpS G s (Jn e (ym K KP)) (vH 0 [] LV) h->ma P n [] h K KP
theorem Et{P:Program}{s:S}{e:Jl}{n:FuncId}{fn:Func}(lv:Nat->Bool)(hm:P.follows .mixedOrders=true)(hf:P.funcs[n]? =some fn)(hb:Jo P n=true)(hc:fn.body.bind (pm P lv fn.ntmps)=some s)(hr:Dc P lv fn.results.toList=some e)(hn:decide (0<=fn.ntmps)=true):HX0 P s e n:=λ_ hG _ _ _ w=> .inl ⟨hb,OU hm hG hf hc hr (of_decide_eq_true hn) w⟩
def HX1(P:Program)(s:S)(e:Jl)(n:FuncId):Prop:= ∀(G:mG) (_:nz P G) (a0:Value) {h:H} {K:Value->H->Prop} {KP:List PanicEntry->H->Prop},wpS G s (Jn e (ym K KP)) (vH 0 [a0] LV) h->ma P n [a0] h K KP
theorem Df{P:Program}{s:S}{e:Jl}{n:FuncId}{fn:Func}(lv:Nat->Bool)(hm:P.follows .mixedOrders=true)(hf:P.funcs[n]? =some fn)(hb:Jo P n=true)(hc:fn.body.bind (pm P lv fn.ntmps)=some s)(hr:Dc P lv fn.results.toList=some e)(hn:decide (1<=fn.ntmps)=true):HX1 P s e n:=λ_ hG a0 _ _ _ w=> .inl ⟨hb,OU hm hG hf hc hr (of_decide_eq_true hn) w⟩
def HX2(P:Program)(s:S)(e:Jl)(n:FuncId):Prop:= ∀(G:mG) (_:nz P G) (a0 a1:Value) {h:H} {K:Value->H->Prop} {KP:List PanicEntry->H->Prop},wpS G s (Jn e (ym K KP)) (vH 0 [a0,a1] LV) h->ma P n [a0,a1] h K KP
theorem Tc{P:Program}{s:S}{e:Jl}{n:FuncId}{fn:Func}(lv:Nat->Bool)(hm:P.follows .mixedOrders=true)(hf:P.funcs[n]? =some fn)(hb:Jo P n=true)(hc:fn.body.bind (pm P lv fn.ntmps)=some s)(hr:Dc P lv fn.results.toList=some e)(hn:decide (2<=fn.ntmps)=true):HX2 P s e n:=λ_ hG a0 a1 _ _ _ w=> .inl ⟨hb,OU hm hG hf hc hr (of_decide_eq_true hn) w⟩
def HX3(P:Program)(s:S)(e:Jl)(n:FuncId):Prop:= ∀(G:mG) (_:nz P G) (a0 a1 a2:Value) {h:H} {K:Value->H->Prop} {KP:List PanicEntry->H->Prop},wpS G s (Jn e (ym K KP)) (vH 0 [a0,a1,a2] LV) h->ma P n [a0,a1,a2] h K KP
theorem hx3{P:Program}{s:S}{e:Jl}{n:FuncId}{fn:Func}(lv:Nat->Bool)(hm:P.follows .mixedOrders=true)(hf:P.funcs[n]? =some fn)(hb:Jo P n=true)(hc:fn.body.bind (pm P lv fn.ntmps)=some s)(hr:Dc P lv fn.results.toList=some e)(hn:decide (3<=fn.ntmps)=true):HX3 P s e n:=λ_ hG a0 a1 a2 _ _ _ w=> .inl ⟨hb,OU hm hG hf hc hr (of_decide_eq_true hn) w⟩
end Go.Ev
