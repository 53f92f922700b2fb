/- A part of the proof. -/
import Derived.Test.YtgjkkjeakagomaaGreatDoorEnd
set_option linter.all false
open Go.Value renaming int→Jx
open Go.IntKind renaming i64→JT
namespace Go.Ev
open Go
section
set_option linter.unusedVariables false
variable {h:H}
theorem qR{b o:Nat}:qV h b o 1=[hv h b o]:=(rfl)
theorem CP{b o:Nat}:qV h b o 2=[hv h b o,hv h b (o+1)]:=(rfl)
theorem uq{b o:Nat}:qV h b o 3=[hv h b o,hv h b (o+1),hv h b (o+2)]:=(rfl)
theorem mQ{b o:Nat}:qV h b o 4=[hv h b o,hv h b (o+1),hv h b (o+2),hv h b (o+3)]:=(rfl)
theorem ahn{b o:Nat}:qV h b o 5=[hv h b o,hv h b (o+1),hv h b (o+2),hv h b (o+3),hv h b (o+4)]:=(rfl)
theorem qU{b o:Nat}:qV h b o 6=[hv h b o,hv h b (o+1),hv h b (o+2),hv h b (o+3),hv h b (o+4),hv h b (o+5)]:=(rfl)
theorem aho{b o:Nat}:qV h b o 7=[hv h b o,hv h b (o+1),hv h b (o+2),hv h b (o+3),hv h b (o+4),hv h b (o+5),hv h b (o+6)]:=(rfl)
theorem ajC{b o:Nat}:qV h b o 9=[hv h b o,hv h b (o+1),hv h b (o+2),hv h b (o+3),hv h b (o+4),hv h b (o+5),hv h b (o+6),hv h b (o+7),hv h b (o+8)]:=(rfl)
theorem pm{b o:Nat}:qV h b o 14=[hv h b o,hv h b (o+1),hv h b (o+2),hv h b (o+3),hv h b (o+4),hv h b (o+5),hv h b (o+6),hv h b (o+7),hv h b (o+8),hv h b (o+9),hv h b (o+10),hv h b (o+11),hv h b (o+12),hv h b (o+13)]:=(rfl)
theorem ahS{t:TypeId}{x:Value}:s1 (.mki t) x h=True:=(rfl)
theorem ajD{t:TypeId}{x:Value}:v1 (.mki t) x h= .iface t x:=(rfl)
theorem ahT{t:TypeId}{x:Value}{neg:Bool}:v2 (.eqn .iface neg) (.iface t x) .nilIface h= .bool neg:=by cases neg<;>simp [v2,uT]
theorem aeV{t:TypeId}{x:Value}{neg:Bool}:s2 (.eqn .iface neg) (.iface t x) .nilIface h=True:=by simp [s2,uT]
theorem aeW{neg:Bool}:v2 (.eqn .iface neg) .nilIface .nilIface h= .bool (!neg):=by cases neg<;>simp [v2,uT]
theorem abD{neg:Bool}:s2 (.eqn .iface neg) .nilIface .nilIface h=True:=by simp [s2,uT]
theorem ajE{a b:List Value}{neg:Bool}{ks:List Kc}:v2 (.eqs neg ks) (.agg a.toArray) (.agg b.toArray) h= .bool (if neg then !HZ a b else HZ a b):=(rfl)
theorem ahU{a b:List Value}{neg:Bool}{ks:List Kc}:s2 (.eqs neg ks) (.agg a.toArray) (.agg b.toArray) h=(nk ks a=true/\nk ks b=true):=(rfl)
theorem alf:nk [] []=true:=(rfl)
theorem alg{k:Kc}{ks:List Kc}{v:Value}{vs:List Value}:nk (k::ks) (v::vs)=(HV k v && nk ks vs):=(rfl)
theorem alh{k k':IntKind}{n:Int}:HV (.int k) (.int k' n)=decide (k=k'):=(rfl)
theorem ali{s:List UInt8}:HV .str (str s)=true:=(rfl)
theorem alj{b:Bool}:HV .bool (.bool b)=true:=(rfl)
theorem ajF:HZ [] []=true:=(rfl)
theorem ajG{a b:Value}{x y:List Value}:HZ (a::x) (b::y)=(ceq a b && HZ x y):=(rfl)
theorem ajH{k k':IntKind}{a b:Int}:ceq (.int k a) (.int k' b)=decide (a=b):=(rfl)
theorem ajI{a b:List UInt8}:ceq (str a) (str b)=decide (a=b):=by simp [ceq,str]
theorem ajJ{a b:Bool}:ceq (.bool a) (.bool b)=decide (a=b):=(rfl)
theorem ajK{G:lq}{d:Option Nat}{st:su}{r:List St}{K:ku->H->Prop}{KP:List PanicEntry->H->Prop}{σ:ku}{e:TypeId}{sz len:Nat}{z:List Value}{ps:List Nat}{vs:List Value}:nZ G (.bsl e sz len z ps) d st r K KP vs σ h=(ps.length=vs.length/\Ci sz len (ps.zip vs)/\mq st σ h (h.push (.cells (rz sz z (ps.zip vs)).toArray e))/\kT G r K KP (nD σ d (.slice (some ⟨h.size,0,none⟩) len len)) (h.push (.cells (rz sz z (ps.zip vs)).toArray e))):=(rfl)
theorem alk{sz len:Nat}:Ci sz len []=True:=(rfl)
theorem alm{sz len i:Nat}{v:Value}{r:List (Nat×Value)}:Ci sz len ((i,v)::r)=(v.cells.size=sz/\i<len/\Ci sz len r):=(rfl)
theorem aln{sz:Nat}{l:List Value}:rz sz l []=l:=(rfl)
theorem ahV{sz i:Nat}{l m:List Value}{r:List (Nat×Value)}:rz sz l ((i,.agg m.toArray)::r)=rz sz (PU l (i*sz) m) r:=by simp only[rz,PV]
theorem Ug{sz i:Nat}{l:List Value}{v:Value}{r:List (Nat×Value)}(hv:v.cells= #[v]):rz sz l ((i,v)::r)=rz sz (l.set (i*sz) v) r:=by simp only[rz,xL hv]
theorem ahW{sz i:Nat}{l:List Value}{k:IntKind}{n:Int}{r:List (Nat×Value)}:rz sz l ((i,.int k n)::r)=rz sz (l.set (i*sz) (.int k n)) r:=Ug (abW k n)
theorem ahX{sz i:Nat}{l:List Value}{s:List UInt8}{r:List (Nat×Value)}:rz sz l ((i,str s)::r)=rz sz (l.set (i*sz) (str s)) r:=Ug (abY s)
theorem abE{sz i:Nat}{l:List Value}{a:Option Addr}{m c:Nat}{r:List (Nat×Value)}:rz sz l ((i,.slice a m c)::r)=rz sz (l.set (i*sz) (.slice a m c)) r:=Ug (MX a m c)
theorem ajL{G:lq}{d:Option Nat}{st:su}{r:List St}{K:ku->H->Prop}{KP:List PanicEntry->H->Prop}{σ:ku}{e:TypeId}{sz bytes:Nat}{z:List Value}{k k':IntKind}{l c:Int}:nZ G (.mks e sz bytes z) d st r K KP [.int k l,.int k' c] σ h=(0<=l/\l<=c/\c*bytes<=140737488355328/\mq st σ h (h.push (.cells (rf z c.toNat).toArray e))/\kT G r K KP (nD σ d (.slice (some ⟨h.size,0,none⟩) l.toNat c.toNat)) (h.push (.cells (rf z c.toNat).toArray e))):=by simp [nZ,qp,kS,ti]
theorem aeX{G:lq}{d:Option Nat}{st:su}{r:List St}{K:ku->H->Prop}{KP:List PanicEntry->H->Prop}{σ:ku}{g:FuncId}{first cap:List Value}{vs:List Value}:nZ G .callv d st r K KP (.func (.func g) first.toArray cap.toArray::vs) σ h=G g (first++vs++cap) h (λv h'=>mq st σ h h'/\kT G r K KP (nD σ d v) h') KP:=by simp [nZ,qp]
theorem ahp{G:lq}{d:Option Nat}{st:su}{r:List St}{K:ku->H->Prop}{KP:List PanicEntry->H->Prop}{σ:ku}{fn:Fn}{k:Nat}{vs:List Value}:nZ G (.mkf fn k) d st r K KP vs σ h=(mq st σ h (h)/\kT G r K KP (nD σ d (.func fn (vs.take k).toArray (vs.drop k).toArray)) (h)):=(rfl)
theorem aeY{l n:Nat}{a:Addr}{k:IntKind}{i:Int}:s2 (.idxP l n) (.pointer (some a)) (.int k i) h=(0<=i/\i<l):=by simp [s2,kS,ti]
theorem ahY{l n b o:Nat}{k:IntKind}{i:Int}:v2 (.idxP l n) (.pointer (some ⟨b,o,none⟩)) (.int k i) h= .pointer (some ⟨b,o+i.toNat*n,none⟩):=by simp [v2,ti,Zl]
theorem vQ{G:lq}{Q:tH}{σ:ku}{a b:S}:wpS G (.both a b) Q σ h=(wpS G a Q σ h/\wpS G b Q σ h):=(rfl)
theorem aeZ(n:Nat):((n:Int)<0)=False:=zP
theorem ahZ(n:Nat):(0<=(n:Int))=True:=zP
theorem ah0(a b:Nat):((a:Int)<=(b:Int))=(a<=b):=zP
theorem ah1(a b:Nat):((a:Int)<(b:Int))=(a<b):=zP
theorem ah2{h:H}{o b:Nat}(k:o<lS h b):(o<lS h b)=True:=ai k
theorem ah3{h:H}{o b:Nat}(k:o<=lS h b):(o<=lS h b)=True:=ai k
attribute [go_sem] Bool.true_eq_false decide_true decide_false eF iK dZ ik dU fK
attribute [go_sem low] ah2 ah3
attribute [go_sem] aeZ ahZ ah0 ah1 Nat.not_le Nat.not_lt Nat.lt_irrefl
attribute [go_sem] qR CP uq mQ ahn qU aho ajC pm ahS ajD ahT aeV aeW abD ajE ahU alf alg alh ali alj ajF ajG ajH ajI ajJ ajK alk alm aln ahV ahW ahX abE ajL ahp aeY ahY List.zip_cons_cons List.zip_nil_left Option.isNone_none Option.isNone_some
end
/-! ### Settled cells -/
abbrev U:=Nat->Nat
def ub(u:U)(b n:Nat):U:=λi=>if i=b then n else u i
structure Ge (u:U) (h:H) (u':U) (h':H):Prop where
 sz:h.size<=h'.size
 up: ∀b,b<h.size->u b<=u' b
 hs: ∀b,b<h.size->lS h' b=lS h b/\tJ h' b=tJ h b
 cl: ∀b,b<h.size-> ∀o,o<u b->hv h' b o=hv h b o
theorem Ge.refl(u:U)(h:H):Ge u h u h:=⟨ak _,λ_ _=>ak _,λ_ _=>⟨rfl,rfl⟩,λ_ _ _ _=>rfl⟩
theorem Ge.trans{u u1 u2:U}{h h1 h2:H}(a:Ge u h u1 h1)(b:Ge u1 h1 u2 h2):Ge u h u2 h2:=by
 refine⟨aT a.sz b.sz,λi hi=>aT (a.up i hi) (b.up i (bP hi a.sz)),λi hi=> ?_,λi hi o ho=> ?_⟩
 ·have hi':=bP hi a.sz
  exact⟨(b.hs i hi').1.trans (a.hs i hi).1,(b.hs i hi').2.trans (a.hs i hi).2⟩
 ·exact(b.cl i (bP hi a.sz) o (bP ho (a.up i hi))).trans (a.cl i hi o ho)
structure jD (S:Nat->Prop) (u:U) (h:H) (u':U) (h':H):Prop where
 ge:Ge u h u' h'
 same: ∀b,b<h.size-> ¬S b->h'[b]? =h[b]? /\u' b=u b
def S0:Nat->Prop:=λ_=>False
theorem jD.refl(S:Nat->Prop)(u:U)(h:H):jD S u h u h:=⟨.refl u h,λ_ _ _=>⟨rfl,rfl⟩⟩
theorem jD.trans{S S2:Nat->Prop}{u u1 u2:U}{h h1 h2:H}(a:jD S u h u1 h1)(b:jD S2 u1 h1 u2 h2)(hs: ∀b,b<h.size->S2 b->S b):jD S u h u2 h2:=by
 refine⟨a.ge.trans b.ge,λi hi hn=> ?_⟩
 obtain⟨a1,a2⟩:=a.same i hi hn
 obtain⟨b1,b2⟩:=b.same i (bP hi a.ge.sz) (λh=>hn (hs i hi h))
 exact⟨b1.trans a1,b2.trans a2⟩
theorem jD.tZ{S:Nat->Prop}{u u1 u2:U}{h h1 h2:H}(a:jD S u h u1 h1)(b:jD S0 u1 h1 u2 h2):jD S u h u2 h2:=a.trans b (λ_ _ h=>h.elim)
theorem jD.mono{S S':Nat->Prop}{u u':U}{h h':H}(a:jD S u h u' h')(hs: ∀b,b<h.size->S b->S' b):jD S' u h u' h':=
 ⟨a.ge,λb hb hn=>a.same b hb (λh=>hn (hs b hb h))⟩
theorem jD.ext{u u':U}{h h':H}(a:jD S0 u h u' h'):abG h h':=⟨a.ge.sz,λb hb=>(a.same b hb (λh=>h)).1⟩
theorem jD.pushf(S:Nat->Prop)(u:U)(h:H)(c:Array Value)(t:TypeId)(f:Nat×Nat)(n:Nat):jD S u h (ub u h.size n) (h.push (.cells c t f)):=by
 refine⟨⟨zP,λb hb=> ?_,λb hb=>⟨zK hb,MZ hb⟩,λb hb o _=>uO hb⟩,λb hb _=>⟨pu zO,?_⟩⟩
 ·unfold ub;rw[af zO];exact ak _
 ·unfold ub;rw[af zO]
theorem jD.push(S:Nat->Prop)(u:U)(h:H)(c:Array Value)(t:TypeId)(n:Nat):jD S u h (ub u h.size n) (h.push (.cells c t)):=jD.pushf S u h c t (0,0) n
theorem jD.qZ(S:Nat->Prop)(u:U)(h:H)(c:Array Value)(t:TypeId):jD S u h (ub u h.size 0) (h.push (.cells c t)):=jD.push S u h c t 0
theorem CR{h:H}{b o k i:Nat}{v:Value}(hne:k≠b\/i≠o):Go.Ev.hv (ky h b o v) k i=Go.Ev.hv h k i:=by
 unfold Go.Ev.hv hc
 rw[mW]
 by_cases hk:k=b
 ·subst hk
  rw[ah rfl]
  cases hx:h[k]? with
  |none=>rfl
  |some x=>
   cases x<;>simp only[bn]
   rw[eD zO]
 ·rw[af hk]
theorem jD.set{S:Nat->Prop}(u:U)(h:H){b o:Nat}(v:Value)(hb:S b)(ho:u b<=o):jD S u h u (ky h b o v):=by
 refine⟨⟨by rw[wS];exact ak _,λ_ _=>ak _,λb _=>⟨Cg,Na⟩,λi hi j hj=>CR ?_⟩,λi hi hn=>⟨?_,rfl⟩⟩
 ·by_cases e:i=b
  ·subst e;right;omega
  ·exact .inl e
 ·rw[mW,af (by rintro rfl;exact hn hb)]
theorem jD.settle{S:Nat->Prop}(u:U)(h:H){b n:Nat}(hb:S b)(hn:u b<=n):jD S u h (ub u b n) h:=by
 refine⟨⟨ak _,λi _=> ?_,λ_ _=>⟨rfl,rfl⟩,λ_ _ _ _=>rfl⟩,λi _ hni=>⟨rfl,?_⟩⟩
 ·unfold ub;split
  ·rename_i e;subst e;exact hn
  ·exact ak _
 ·unfold ub;rw[af (by rintro rfl;exact hni hb)]
theorem lI: ∀(l:List Value) (h:H) (b o:Nat),(jW h b o l).size=h.size
 |[],_,_,_=>rfl
 |v::l,h,b,o=>by rw[jW,lI l,wS]
theorem jP: ∀(l:List Value) (h:H) (b o k:Nat),lS (jW h b o l) k=lS h k
 |[],_,_,_,_=>rfl
 |v::l,h,b,o,k=>by rw[jW,jP l,Cg]
theorem jQ: ∀(l:List Value) (h:H) (b o k:Nat),tJ (jW h b o l) k=tJ h k
 |[],_,_,_,_=>rfl
 |v::l,h,b,o,k=>by rw[jW,jQ l,Na]
theorem ut: ∀(l:List Value) (h:H) (b o i:Nat),o+l.length<=lS h b->Go.Ev.hv (jW h b o l) b i=if o<=i/\i<o+l.length then l.getD (i - o) undef else Go.Ev.hv h b i
 |[],_,_,o,i,_=>by rw[af zP];rfl
 |v::l,h,b,o,i,hl=>by
  simp only[au]at hl ⊢
  rw[jW,ut l _ _ _ _ (by rw[Cg];omega)]
  by_cases h1:o+1<=i/\i<o+1+l.length
  ·rw[ah h1,ah zO,show i - o=(i - (o+1))+1 by omega,gW]
  ·rw[af h1]
   by_cases h2:i=o
   ·subst h2
    rw[ah zO,PW zO,ah ⟨rfl,rfl⟩];simp
   ·rw[af zO,CR (.inr h2)]
theorem AV: ∀(l:List Value) (h:H) (b o k:Nat),k≠b->(jW h b o l)[k]? =h[k]?
 |[],_,_,_,_,_=>rfl
 |v::l,h,b,o,k,hk=>by rw[jW,AV l _ _ _ _ hk,mW,af hk]
theorem jD.sets{S:Nat->Prop}(u:U)(h:H){b o:Nat}(l:List Value)(hb:S b)(ho:u b<=o)(hl:o+l.length<=lS h b):jD S u h u (jW h b o l):=by
 refine⟨⟨by rw[lI];exact ak _,λ_ _=>ak _,λb _=>⟨jP ..,jQ ..⟩,λi hi j hj=> ?_⟩,λi hi hn=>⟨AV _ _ _ _ _ (by rintro rfl;exact hn hb),rfl⟩⟩
 by_cases e:i=b
 ·subst e;rw[ut _ _ _ _ _ hl,af zO]
 ·unfold Go.Ev.hv hc;rw[AV _ _ _ _ _ e]
/-! ### Data of a type -/
class Rep (α:Type) where
 sz:Nat
 rep:U->H->α->List Value->Prop
 wf:α->Prop
 bulk:α->Nat
 szp:0<sz
 len: ∀{u h a cs},rep u h a cs->cs.length=sz
 ok: ∀{u h a cs},rep u h a cs->cs.all tV=true
 mono: ∀{u h u' h' a cs},Ge u h u' h'->rep u h a cs->rep u' h' a cs
 pos: ∀a,1<=bulk a
open Rep
instance:Rep Int where
 sz:=1
 rep _ _ n cs:=cs=[Jx JT n]
 wf n:= -9223372036854775808<=n/\n<=9223372036854775807
 bulk _:=1
 szp:=Nat.one_pos
 len h:=by subst h;rfl
 ok h:=by subst h;rfl
 mono _ h:=h
 pos _:=ak _
instance:Rep Bool where
 sz:=1
 rep _ _ n cs:=cs=[.bool n]
 wf _:=True
 bulk _:=1
 szp:=Nat.one_pos
 len h:=by subst h;rfl
 ok h:=by subst h;rfl
 mono _ h:=h
 pos _:=ak _
instance repStr:Rep (List UInt8) where
 sz:=1
 rep _ _ s cs:=cs=[str s]
 wf s:=s.length<=maxLen
 bulk s:=s.length+1
 szp:=Nat.one_pos
 len h:=by subst h;rfl
 ok h:=by subst h;rfl
 mono _ h:=h
 pos _:=zO
instance repProd {α β:Type} [Rep α] [Rep β]:Rep (α×β) where
 sz:=sz α+sz β
 rep u h p cs:= ∃c1 c2,cs=c1++c2/\rep u h p.1 c1/\rep u h p.2 c2
 wf p:=wf p.1/\wf p.2
 bulk p:=bulk p.1+bulk p.2
 szp:=Nat.add_pos_left szp _
 len:=fun⟨_,_,h,h1,h2⟩=>by rw[h,ay,len h1,len h2]
 ok:=fun⟨_,_,h,h1,h2⟩=>by rw[h,iU,ok h1,ok h2];rfl
 mono g:=fun⟨_,_,h,h1,h2⟩=>⟨_,_,h,mono g h1,mono g h2⟩
 pos p:=by have:=pos p.1;omega
def jS{α:Type} [Rep α](u:U)(h:H)(v:Value)(l:List α):Prop:= ∃a n c,v= .slice a n c/\n=l.length/\n<=c/\c<=maxLen/\(a=none->c=0)/\
 (l≠[]-> ∃b o,a=some ⟨b,o,none⟩/\b<h.size/\o+l.length*sz α<=u b/\o+l.length*sz α<=lS h b/\ ∀i x,l[i]? =some x->rep u h x (qV h b (o+i*sz α) (sz α)))
def bulkL{α:Type} [Rep α]:List α->Nat
 |[]=>1
 |x::l=>bulk x+bulkL l
theorem pq{α:Type} [Rep α]: ∀l:List α,l.length+1<=bulkL l
 |[]=>ak _
 |x::l=>by have:=pq l;have:=pos x;simp only[bulkL,au];omega
theorem Uh{u u':U}{h h':H}(g:Ge u h u' h'){b o n:Nat}(hb:b<h.size)(ho:o+n<=u b):qV h' b o n=qV h b o n:=by
 unfold qV
 refine fE λj hj=>g.cl b hb _ ?_
 have:=gD.1 hj;omega
theorem xm{i n s:Nat}(hi:i<n):i*s+s<=n*s:=by
 have:=bU s (Nat.succ_le_of_lt hi)
 rw[fC]at this;exact this
theorem jS.mono{α:Type} [Rep α]{u u':U}{h h':H}{v:Value}{l:List α}(g:Ge u h u' h')(hs:jS u h v l):jS u' h' v l:=by
 obtain⟨a,n,c,h1,h2,h3,h4,h5,h6⟩:=hs
 refine⟨a,n,c,h1,h2,h3,h4,h5,λhl=> ?_⟩
 obtain⟨b,o,e,hb,hu,hz,hr⟩:=h6 hl
 refine⟨b,o,e,bP hb g.sz,aT hu (g.up b hb),by rw[(g.hs b hb).1];exact hz,λi x hx=> ?_⟩
 have hi:=(aB.1 hx).1
 have:=xm (s:=sz α) hi
 rw[Uh g hb zO]
 exact Rep.mono g (hr i x hx)
instance repList {α:Type} [Rep α]:Rep (List α) where
 sz:=1
 rep u h l cs:= ∃v,cs=[v]/\jS u h v l
 wf l:=l.length<=maxLen/\ ∀x∈l,wf x
 bulk:=bulkL
 szp:=Nat.one_pos
 len:=fun⟨_,h,_⟩=>by rw[h];rfl
 ok:=fun⟨_,h,a,n,c,e,_⟩=>by rw[h,e];rfl
 mono g:=fun⟨v,h,hs⟩=>⟨v,h,hs.mono g⟩
 pos l:=by have:=pq l;omega
theorem mG{u:U}{h:H}{n:Int}{cs:List Value}:rep u h n cs=(cs=[Jx JT n]):=rfl
theorem Pw{u:U}{h:H}{n:Bool}{cs:List Value}:rep u h n cs=(cs=[.bool n]):=rfl
theorem mE{u:U}{h:H}{n:List UInt8}{cs:List Value}:rep u h n cs=(cs=[str n]):=rfl
theorem mf{α:Type} [Rep α]{u:U}{h:H}{l:List α}{cs:List Value}:rep u h l cs=(∃v,cs=[v]/\jS u h v l):=rfl
theorem lg{α β:Type} [Rep α] [Rep β]{u:U}{h:H}{p:α×β}{cs:List Value}:rep u h p cs=(∃c1 c2,cs=c1++c2/\rep u h p.1 c1/\rep u h p.2 c2):=rfl
theorem abF:sz Int=1:=rfl
theorem He:sz (List UInt8)=1:=rfl
theorem ae0{α β:Type} [Rep α] [Rep β]:sz (α×β)=sz α+sz β:=rfl
theorem jS.sl{α:Type} [Rep α]{u:U}{h:H}{v:Value}{l:List α}(hs:jS u h v l): ∃a c,v= .slice a l.length c/\l.length<=c/\c<=maxLen:=by
 obtain⟨a,n,c,h1,h2,h3,h4,h5,h6⟩:=hs
 subst h2;exact⟨a,c,h1,h3,h4⟩
theorem jS.row{α:Type} [Rep α]{u:U}{h:H}{a:Option Addr}{n c:Nat}{l:List α}(hs:jS u h (.slice a n c) l)(i:Nat)(x:α)(hx:l[i]? =some x):
  ∃b o,a=some ⟨b,o,none⟩/\b<h.size/\o+i*sz α+sz α<=u b/\o+i*sz α+sz α<=lS h b/\rep u h x (qV h b (o+i*sz α) (sz α)):=by
 obtain⟨a',n',c',h1,h2,h3,h4,h5,h6⟩:=hs
 cases h1
 have hi:=(aB.1 hx).1
 obtain⟨b,o,e,hb,hu,hz,hr⟩:=h6 (by rintro rfl;simp at hx)
 have:=xm (s:=sz α) hi
 exact⟨b,o,e,hb,zO,zO,hr i x hx⟩
theorem jS.nil{α:Type} [Rep α](u:U)(h:H):jS u h (.slice none 0 0) ([]:List α):=⟨none,0,0,rfl,rfl,ak _,aj _,λ_=>rfl,λh=>absurd rfl h⟩
theorem jS.rows{α:Type} [Rep α]{u:U}{h:H}{a:Option Addr}{n c:Nat}{l:List α}(hs:jS u h (.slice a n c) l):
  n=l.length/\(a=none->n=0)/\ ∃news:List Value,Ia h a (n*sz α) news/\news.length=n*sz α/\news.all tV=true/\ ∀i x,l[i]? =some x->rep u h x ((news.drop (i*sz α)).take (sz α)):=by
 obtain⟨a',n',c',h1,h2,h3,h4,h5,h6⟩:=hs
 cases h1
 subst h2
 refine⟨rfl,λe=>by have:=h5 e;omega,?_⟩
 by_cases hl:l=[]
 ·subst hl
  exact⟨[],.inl ⟨zP,rfl⟩,zP,rfl,λi x hx=>by simp at hx⟩
 ·obtain⟨b,o,e,hb,hu,hz,hr⟩:=h6 hl
  subst e
  have hrow: ∀i,i<l.length->((qV h b o (l.length*sz α)).drop (i*sz α)).take (sz α)=qV h b (o+i*sz α) (sz α):=λi hi=>by
   have:=xm (s:=sz α) hi
   unfold qV
   apply dV
   intro j
   simp only[dE,dP,bL]
   by_cases hj:j<sz α
   ·rw[ah hj,di zO,di hj]
    simp [ig]
   ·rw[af hj,dh (by simpa using hj)];rfl
  refine⟨qV h b o (l.length*sz α),.inr ⟨hz,rfl⟩,by simp [qV],?_,λi x hx=> ?_⟩
  ·rw[bI]
   intro c hc
   obtain⟨j,hj,rfl⟩:=bF.1 hc
   rw[gD]at hj
   have hp:=szp (α:=α)
   have hi:j / sz α<l.length:=Nat.div_lt_of_lt_mul (by rw[jy];exact hj)
   have h7:=ok (hr (j / sz α) l[j / sz α] (by simp [hi]))
   rw[bI]at h7
   have h8:=Nat.div_add_mod j (sz α)
   have h9:=Nat.mod_lt j hp
   refine h7 _ (bF.2 ⟨j % sz α,gD.2 h9,?_⟩)
   have:o+j / sz α*sz α+j % sz α=o+j:=by rw[jy (j / sz α)];omega
   rw[this]
  ·rw[hrow i (aB.1 hx).1]
   exact hr i x hx
/-! ### A slice that the call has made, and adds to -/
def jL(v:Value)(b:Nat):Prop:= ∃o n c,v= .slice (some ⟨b,o,none⟩) n c
def lm{α:Type} [Rep α](k:Nat)(u:U)(h:H)(v:Value)(l:List α):Prop:=(v= .slice none 0 0/\l=[])\/
 ∃b c,v= .slice (some ⟨b,0,none⟩) l.length c/\l.length<=c/\c<=maxLen/\k<=b/\b<h.size/\lS h b=c*sz α/\tJ h b=(0,0)/\u b=l.length*sz α/\ ∀i x,l[i]? =some x->rep u h x (qV h b (i*sz α) (sz α))
theorem lm.nil{α:Type} [Rep α](k:Nat)(u:U)(h:H):lm k u h (.slice none 0 0) ([]:List α):= .inl ⟨rfl,rfl⟩
theorem lm.sl{α:Type} [Rep α]{k:Nat}{u:U}{h:H}{v:Value}{l:List α}(ho:lm k u h v l): ∃a c,v= .slice a l.length c/\l.length<=c/\c<=maxLen:=by
 rcases ho with⟨rfl,rfl⟩|⟨b,c,rfl,h1,h2,_⟩
 ·exact⟨none,0,rfl,ak _,aj _⟩
 ·exact⟨_,c,rfl,h1,h2⟩
theorem lm.iZ{α:Type} [Rep α]{k:Nat}{u:U}{h:H}{v:Value}{l:List α}(ho:lm k u h v l):jS u h v l:=by
 rcases ho with⟨rfl,rfl⟩|⟨b,c,rfl,h1,h2,h3,h4,h5,h6,h7,h8⟩
 ·exact .nil u h
 ·refine⟨_,_,_,rfl,rfl,h1,h2,(λh=>by cases h),λ_=>⟨b,0,rfl,h4,zO,?_,λi x hx=> ?_⟩⟩
  ·rw[h5,bJ];exact bU _ h1
  ·rw[bJ];exact h8 i x hx
theorem lm.ge{α:Type} [Rep α]{k:Nat}{u:U}{h:H}{v:Value}{l:List α}(ho:lm k u h v l){b:Nat}(hb:jL v b):k<=b:=by
 obtain⟨o,n,c,rfl⟩:=hb
 rcases ho with⟨h,_⟩|⟨b',c',h,_,_,h3,_⟩
 ·cases h
 ·cases h;exact h3
theorem lm.lt{α:Type} [Rep α]{k:Nat}{u:U}{h:H}{v:Value}{l:List α}(ho:lm k u h v l){b:Nat}(hb:jL v b):b<h.size:=by
 obtain⟨o,n,c,rfl⟩:=hb
 rcases ho with⟨h,_⟩|⟨b',c',h,_,_,_,h3,_⟩
 ·cases h
 ·cases h;exact h3
theorem lm.step{α:Type} [Rep α]{S:Nat->Prop}{k:Nat}{u u':U}{h h':H}{v:Value}{l:List α}(ho:lm k u h v l)(s:jD S u h u' h')(hn: ∀b,jL v b-> ¬S b):lm k u' h' v l:=by
 rcases ho with h0|⟨b,c,rfl,h1,h2,h3,h4,h5,h6,h7,h8⟩
 ·exact .inl h0
 ·obtain⟨s1,s2⟩:=s.same b h4 (hn b ⟨_,_,_,rfl⟩)
  refine .inr ⟨b,c,rfl,h1,h2,h3,bP h4 s.ge.sz,by rw[(s.ge.hs b h4).1];exact h5,by rw[(s.ge.hs b h4).2];exact h6,by rw[s2];exact h7,λi x hx=> ?_⟩
  have hi:=(aB.1 hx).1
  have:=xm (s:=sz α) hi
  rw[Uh s.ge h4 zO]
  exact Rep.mono s.ge (h8 i x hx)
theorem lm.sZ{α:Type} [Rep α]{k:Nat}{u u':U}{h h':H}{v:Value}{l:List α}(ho:lm k u h v l)(s:jD S0 u h u' h'):lm k u' h' v l:=ho.step s (λ_ _ h=>h)
theorem lm.mono{α:Type} [Rep α]{k k':Nat}{u:U}{h:H}{v:Value}{l:List α}(ho:lm k u h v l)(hk:k'<=k):lm k' u h v l:=by
 rcases ho with h0|⟨b,c,rfl,h1,h2,h3,h4⟩
 ·exact .inl h0
 ·exact .inr ⟨b,c,rfl,h1,h2,aT hk h3,h4⟩
theorem lm.made {α:Type} [Rep α] {k:Nat} (u:U) (h:H) (hk:k<=h.size) (e:TypeId) (l:List α) (cs:List Value) (hl:cs.length=l.length*sz α) (hm:l.length<=maxLen)
  (hr: ∀i x,l[i]? =some x->rep u h x ((cs.drop (i*sz α)).take (sz α))):
  lm k (ub u h.size (l.length*sz α)) (h.push (.cells cs.toArray e)) (.slice (some ⟨h.size,0,none⟩) l.length l.length) l:=by
 have st:=jD.push S0 u h cs.toArray e (l.length*sz α)
 refine .inr ⟨h.size,l.length,rfl,ak _,hm,hk,zP,by rw[uo rfl,hl],uS rfl,by simp [ub],λi x hx=> ?_⟩
 have:qV (h.push (.cells cs.toArray e)) h.size (i*sz α) (sz α)=(cs.drop (i*sz α)).take (sz α):=by
  have hi:=(aB.1 hx).1
  have h2:=xm (s:=sz α) hi
  unfold qV
  apply dV
  intro j
  simp only[dE,dP,bL]
  by_cases hj:j<sz α
  ·rw[ah hj,di hj,bn,yH rfl,aG,bf zO];rfl
  ·rw[af hj,dh (by simpa using hj)];rfl
 rw[this]
 exact Rep.mono st.ge (hr i x hx)
theorem Hf{a b:List Value}{o n:Nat}(h:o+n<=a.length):((a++b).drop o).take n=(a.drop o).take n:=by
 rw[List.drop_append_of_le_length zO,fH (by simp;omega)]
theorem Gg{a b:List Value}{o n:Nat}(h:a.length<=o):((a++b).drop o).take n=(b.drop (o - a.length)).take n:=by
 rw[List.drop_append,gL h,aJ]
theorem CS{h:H}{b o n:Nat}{cs:List Value}(hc: ∀j,j<n->Go.Ev.hv h b (o+j)=cs.getD j undef)(hl:cs.length=n):qV h b o n=cs:=by
 unfold qV
 apply dV
 intro j
 rw[bL]
 by_cases hj:j<n
 ·rw[di hj,bn,hc j hj,aG,bf zO];rfl
 ·rw[dh (by simpa using hj),dh zO];rfl
theorem zC{l:List Value}{o n j:Nat}(hj:j<n):((l.drop o).take n).getD j undef=l.getD (o+j) undef:=by
 simp [aG,hj,dP]
theorem MQ {α:Type} [Rep α] {G:lq} {e:TypeId} {bytes:Nat} {z:List Value} {k s:Nat} {u:U} {h:H} {v w:Value} {l m:List α} {K:Value->H->Prop} {KP:List PanicEntry->H->Prop}
  (ho:lm k u h v l) (hw:jS u h w m) (hs:s=sz α) (hz:z.length=sz α) (hk:k<=h.size) (hb:(l.length+m.length)*bytes<=140737488355328)
  (hK: ∀v' u' h',lm k u' h' v' (l++m)->jD (jL v) u h u' h'->(∀b,jL v' b->jL v b\/h.size<=b)->K v' h'):qp G (.app e s bytes z) [v,w] h K KP:=by
 subst hs
 obtain⟨wa,wn,wc,rfl,-⟩:=id hw
 obtain⟨hwn,hw0,news,hrn,hnl,hnok,hnr⟩:=hw.rows
 subst hwn
 obtain⟨va,vc,rfl,hvc,hvm⟩:=ho.sl
 show akz e (sz α) bytes z va l.length vc wa m.length h K
 have hlen:(l++m).length=l.length+m.length:=zP
 -- the rows of the new block
 have grow: ∀(olds:List Value) (cap:Nat),olds.length=l.length*sz α->(∀i x,l[i]? =some x->rep u h x ((olds.drop (i*sz α)).take (sz α)))->l.length+m.length<=cap->cap<=maxLen->
   K (.slice (some ⟨h.size,0,none⟩) (l.length+m.length) cap) (h.push (.cells (olds++news++rf z (cap - (l.length+m.length))).toArray e)):=by
  intro olds cap hol hor h1 h2
  have st:=jD.push (jL (.slice va l.length vc)) u h (olds++news++rf z (cap - (l.length+m.length))).toArray e ((l.length+m.length)*sz α)
  refine hK _ (ub u h.size ((l.length+m.length)*sz α)) _ (.inr ⟨h.size,cap,by rw[hlen],zO,h2,hk,zP,?_,uS rfl,by simp [ub],λi x hx=> ?_⟩) st (λb hb=> ?_)
  ·rw[uo rfl]
   have:(rf z (cap - (l.length+m.length))).length=(cap - (l.length+m.length))*sz α:=by simp [rf,hz]
   rw[ay,ay,hol,hnl,this,<-dJ,<-dJ]
   congr 1;omega
  ·have hi:=(aB.1 hx).1
   rw[hlen]at hi
   have h3:=xm (s:=sz α) hi
   have hcs:rep u h x (((olds++news).drop (i*sz α)).take (sz α)):=by
    by_cases hil:i<l.length
    ·rw[bM hil]at hx
     have:=xm (s:=sz α) hil
     rw[Hf zO]
     exact hor i x hx
    ·rw[dA zO]at hx
     have h5:i*sz α=l.length*sz α+(i - l.length)*sz α:=by rw[<-dJ];congr 1;omega
     rw[Gg zO,hol,h5,iN]
     exact hnr _ x hx
   have hll:(((olds++news).drop (i*sz α)).take (sz α)).length=sz α:=Rep.len hcs
   rw[CS (cs:=((olds++news).drop (i*sz α)).take (sz α)) (λj hj=> ?_) hll]
   ·exact Rep.mono st.ge hcs
   ·rw[yH rfl,zC hj]
    rw[dJ]at h3
    rw[aG,aG,bM (by rw[ay,hol,hnl];omega)]
  ·obtain⟨o,n,c,e⟩:=hb
   cases e;right;exact ak _
 rcases ho with⟨he,rfl⟩|⟨b,c,he,h1,h2,h3,h4,h5,h6,h7,h8⟩
 ·cases he
  refine⟨λ_=>⟨rfl,rfl⟩,hw0,ak _,hb,[],news,.inl ⟨zP,rfl⟩,hrn,λhle=> ?_,λ_ cap hc1 hc2=> ?_⟩
  ·have:m=[]:=bX (by simp only[aA]at hle;omega)
   subst this
   exact hK _ u h (.inl ⟨rfl,rfl⟩) (.refl _ _ _) (λb hb=> .inl hb)
  ·have:=grow [] cap zP (λi x hx=>by simp at hx) hc1 hc2
   simpa using this
 ·cases he
  refine⟨(λh=>by cases h),hw0,h1,hb,qV h b 0 (l.length*sz α),news,.inr ⟨by rw[h5,bJ];exact bU _ h1,rfl⟩,hrn,λhle=> ?_,λ_ cap hc1 hc2=> ?_⟩
  ·have hroom:(l.length+m.length)*sz α<=vc*sz α:=bU _ hle
   rw[dJ]at hroom
   simp only[bJ]
   have hfit:l.length*sz α+news.length<=lS h b:=by rw[h5,hnl];exact hroom
   refine⟨⟨hfit,by rw[h6];right;exact aj _,hnok⟩,?_⟩
   have hB:jL (.slice (some ⟨b,0,none⟩) l.length vc) b:=⟨_,_,_,rfl⟩
   have s1:=jD.sets (S:=jL (.slice (some ⟨b,0,none⟩) l.length vc)) u h news hB (by rw[h7];exact ak _) hfit
   have s2:=jD.settle (S:=jL (.slice (some ⟨b,0,none⟩) l.length vc)) u (jW h b (l.length*sz α) news) (n:=(l.length+m.length)*sz α) hB (by rw[h7];exact bU _ (gN _ _))
   have st:=s1.trans s2 (λ_ _ h=>h)
   refine hK _ _ _ (.inr ⟨b,vc,by rw[hlen],by rw[hlen];exact hle,h2,h3,by rw[lI];exact h4,by rw[jP];exact h5,by rw[jQ];exact h6,by rw[hlen];simp [ub],λi x hx=> ?_⟩) st (λb' hb'=> ?_)
   ·have hi:=(aB.1 hx).1
    rw[hlen]at hi
    by_cases hil:i<l.length
    ·rw[bM hil]at hx
     have:=xm (s:=sz α) hil
     rw[Uh s1.ge h4 zO]
     exact Rep.mono st.ge (h8 i x hx)
    ·rw[dA zO]at hx
     have h9:i*sz α=l.length*sz α+(i - l.length)*sz α:=by rw[<-dJ];congr 1;omega
     have hcs:=hnr _ x hx
     have h10:=xm (s:=sz α) (show i - l.length<m.length by omega)
     rw[CS (cs:=(news.drop ((i - l.length)*sz α)).take (sz α)) (λj hj=> ?_) (Rep.len hcs)]
     ·exact Rep.mono st.ge hcs
     ·rw[ut _ _ _ _ _ hfit,ah (by rw[hnl];omega),zC hj,h9]
      congr 1;omega
   ·obtain⟨o,n,c',e⟩:=hb'
    cases e;exact .inl hB
  ·refine grow _ cap (by simp [qV]) (λi x hx=> ?_) hc1 hc2
   have hi:=(aB.1 hx).1
   have h3:=xm (s:=sz α) hi
   have:((qV h b 0 (l.length*sz α)).drop (i*sz α)).take (sz α)=qV h b (i*sz α) (sz α):=by
    unfold qV
    apply dV
    intro j
    simp only[dE,dP,bL]
    by_cases hj:j<sz α
    ·rw[ah hj,di zO,di hj];simp
    ·rw[af hj,dh (by simpa using hj)];rfl
   rw[this];exact h8 i x hx
theorem CU {α:Type} [Rep α] {G:lq} {e e':TypeId} {bytes s:Nat} {z cs:List Value} {k:Nat} {u:U} {h:H} {v:Value} {l:List α} {x:α} {K:Value->H->Prop} {KP:List PanicEntry->H->Prop}
  (ho:lm k u h v l) (hx:rep u h x cs) (hs:s=sz α) (hz:z.length=sz α) (hk:k<=h.size) (hb:(l.length+1)*bytes<=140737488355328)
  (hK: ∀v' u' h',lm k u' h' v' (l++[x])->jD (jL v) u h u' h'->(∀b,jL v' b->jL v b\/h.size<=b)->K v' h'):qp G (.app e s bytes z) [v,.slice (some ⟨h.size,0,none⟩) 1 1] (h.push (.cells cs.toArray e')) K KP:=by
 have hl:=Rep.len hx
 have st:=jD.push S0 u h cs.toArray e' (sz α)
 have hw:jS (ub u h.size (sz α)) (h.push (.cells cs.toArray e')) (.slice (some ⟨h.size,0,none⟩) 1 1) [x]:=by
  have:=(lm.made (k:=0) u h (aj _) e' [x] cs (by simp [hl]) (by simp only[aZ];decide) (λi y hy=> ?_)).iZ
  ·simpa using this
  ·cases i with
   |zero=>
    simp only[bO,aQ]at hy
    subst hy
    rw[fB,eU,cB zO];exact hx
   |succ i=>simp at hy
 refine MQ (ho.sZ st) hw hs hz (by simp;omega) (by simpa using hb) λv' u' h' o' s' b'=>hK v' u' h' o' ?_ (λb hb=>(b' b hb).imp id λh=>by simp at h;omega)
 exact(jD.push (jL v) u h cs.toArray e' (sz α)).trans s' (λ_ _ h=>h)
end Go.Ev
namespace Go.Ev
open Go
variable {S:Nat->Prop} {h h1:H} {u u1:U}
theorem jD.pZ{c:Array Value}{t:TypeId}(s:jD S u h u1 h1):jD S u h (ub u1 h1.size 0) (h1.push (.cells c t)):=
 s.trans (jD.push S0 u1 h1 c t 0) (λ_ _ h=>h.elim)
theorem jD.setR{b o:Nat}{v:Value}(s:jD S u h u1 h1)(hb:h.size<=b\/S b)(hu:u1 b<=o):jD S u h u1 (ky h1 b o v):=
 s.trans (jD.set (S:=λi=>i=b) u1 h1 v rfl hu) (λi hi e=>by
  subst e
  rcases hb with hb|hb
  ·omega
  ·exact hb)
end Go.Ev
namespace Go.Ev
open Go Rep
variable {G:lq} {K:ku->H->Prop} {KP:List PanicEntry->H->Prop} {b:Nat} {cs:List Value} {d:Option Nat} {h:H} {i:Nat} {l:List Value} {n:Nat} {r:List St} {st:su} {u:U} {v:Value} {σ σ':ku}
def jR(u:U)(h:H)(b:Nat)(cs:List Value):Prop:=b<h.size/\lS h b=cs.length/\tJ h b=(0,0)/\u b=0/\ ∀i v,cs[i]? =some v->Go.Ev.hv h b i=v
theorem jR.step{S:Nat->Prop}{u u':U}{h h':H}{b:Nat}{cs:List Value}(k:jR u h b cs)(s:jD S u h u' h')(hn: ¬S b):jR u' h' b cs:=by
 obtain⟨k1,k2,k3,k4,k5⟩:=k
 obtain⟨s1,s2⟩:=s.same b k1 hn
 refine⟨bP k1 s.ge.sz,by rw[(s.ge.hs b k1).1];exact k2,by rw[(s.ge.hs b k1).2];exact k3,by rw[s2];exact k4,λi v hv=> ?_⟩
 unfold Go.Ev.hv hc;rw[s1];exact k5 i v hv
theorem jR.sZ{u u':U}{h h':H}{b:Nat}{cs:List Value}(k:jR u h b cs)(s:jD S0 u h u' h'):jR u' h' b cs:=k.step s (λh=>h)
theorem jR.at(k:jR u h b cs)(i:Nat)(hi:i<cs.length):Go.Ev.hv h b i=cs.getD i undef:=by
 have:=k.2.2.2.2 i cs[i] (by simp [hi])
 rw[this,aG,bf hi];rfl
theorem jR.mk(h1:b<h.size)(h2:lS h b=cs.length)(h3:tJ h b=(0,0))(h4:u b=0)(h5:qV h b 0 cs.length=cs):jR u h b cs:=by
 refine⟨h1,h2,h3,h4,λi v hv=> ?_⟩
 have hi:=(aB.1 hv).1
 rw[<-h5]at hv
 unfold qV at hv
 rw[bL,di (by simpa using hi)]at hv
 simpa using hv
theorem Zd{α β:Type} [Rep α] [Rep β]{p:α×β}:bulk p=bulk p.1+bulk p.2:=rfl
theorem AX:ub u b n b=n:=by simp [ub]
theorem lU(h:i=b):ub u b n i=n:=by simp [ub,h]
theorem kG(h:u i=0):ub u b 0 i=0:=by unfold ub;split<;>first|rfl|exact h
theorem jC {f:FuncId} {vs:List Value}
  (hc:G f vs h (λv h'=>mq st σ h h'/\kT G r K KP (nD σ d v) h') KP):nZ G (.call f) d st r K KP vs σ h:=hc
theorem lM {α:Type} [Rep α] {G:lq} {e e':TypeId} {bytes s:Nat} {z cs:List Value} {k:Nat} {u:U} {h:H} {v:Value} {l:List α} {x:α} {d:Option Nat} {st:su} {r:List St} {K:ku->H->Prop} {KP:List PanicEntry->H->Prop} {σ:ku}
  (ho:lm k u h v l) (hx:rep u h x cs) (hs:s=sz α) (hz:z.length=sz α) (hk:k<=h.size) (hb:(l.length+1)*bytes<=140737488355328)
  (hK: ∀a n c u' h',lm k u' h' (.slice a n c) (l++[x])->jD (jL v) u h u' h'->mq st σ (h.push (.cells cs.toArray e')) h'/\kT G r K KP (nD σ d (.slice a n c)) h'):
  nZ G (.app e s bytes z) d st r K KP [v,.slice (some ⟨h.size,0,none⟩) 1 1] σ (h.push (.cells cs.toArray e')):=
 CU ho hx hs hz hk hb λv' u' h' o' s' _=>by
  obtain⟨a,c,rfl,-,-⟩:=o'.sl
  exact hK _ _ _ _ _ o' s'
theorem lV {α:Type} [Rep α] {e:TypeId} {bytes s:Nat} {z:List Value} {k:Nat} {w:Value} {l m:List α}
  (ho:lm k u h v l) (hw:jS u h w m) (hs:s=sz α) (hz:z.length=sz α) (hk:k<=h.size) (hb:(l.length+m.length)*bytes<=140737488355328)
  (hK: ∀a n c u' h',lm k u' h' (.slice a n c) (l++m)->jD (jL v) u h u' h'->mq st σ h h'/\kT G r K KP (nD σ d (.slice a n c)) h'):
  nZ G (.app e s bytes z) d st r K KP [v,w] σ h:=
 MQ ho hw hs hz hk hb λv' u' h' o' s' _=>by
  obtain⟨a,c,rfl,-,-⟩:=o'.sl
  exact hK _ _ _ _ _ o' s'
theorem jD.rZ{S:Nat->Prop}{u1:U}{h1:H}{o:Nat}(s:jD S u h u1 h1)(hb:h.size<=b\/S b)(hu:u1 b<=o)(hl:o+l.length<=lS h1 b):jD S u h u1 (jW h1 b o l):=
 s.trans (jD.sets (S:=λi=>i=b) u1 h1 l rfl hu hl) (λi hi e=>by
  subst e
  rcases hb with hb|hb
  ·omega
  ·exact hb)
theorem jR.sets(k:jR u h b cs)(hl:l.length=cs.length):jR u (jW h b 0 l) b l:=by
 obtain⟨k1,k2,k3,k4,k5⟩:=k
 refine⟨by rw[lI];exact k1,by rw[jP,k2,hl],by rw[jQ];exact k3,k4,λi v hv=> ?_⟩
 have hi:=(aB.1 hv).1
 rw[ut _ _ _ _ _ zO,ah zO,jA,aG,hv];rfl
theorem jR.set(k:jR u h b cs)(hi:i<cs.length):jR u (ky h b i v) b (cs.set i v):=by
 obtain⟨k1,k2,k3,k4,k5⟩:=k
 refine⟨by rw[wS];exact k1,by rw[Cg,k2,List.length_set],by rw[Na];exact k3,k4,λj w hw=> ?_⟩
 rw[List.getElem?_set]at hw
 by_cases e:i=j
 ·subst e
  rw[ah rfl,ah hi]at hw
  rw[PW zO,ah ⟨rfl,rfl⟩];simpa using hw
 ·rw[af e]at hw
  rw[CR (.inr (gF e))];exact k5 j w hw
theorem jR.pZ{c:Array Value}{t:TypeId}(k:jR u h b cs):jR (ub u h.size 0) (h.push (.cells c t)) b cs:=k.sZ (jD.push S0 u h c t 0)
def BR(σ σ':ku):List Nat->Prop
 |[]=>True
 |i::l=>σ' i=σ i/\BR σ σ' l
theorem ah4:BR σ σ' []=True:=(rfl)
theorem ah5{l:List Nat}:BR σ σ' (i::l)=(σ' i=σ i/\BR σ σ' l):=(rfl)
attribute [go_sem] ah4 ah5
end Go.Ev
namespace Go.Ev
open Go Rep
variable {G:lq} {K:ku->H->Prop} {KP:List PanicEntry->H->Prop} {d:Option Nat} {h:H} {r:List St} {st:su} {σ:ku}
theorem vS {g:FuncId} {vs:List Value}
  (hc:G g vs h (λv h'=>mq st σ h h'/\kT G r K KP (nD σ d v) h') KP):nZ G .callv d st r K KP (.func (.func g) #[] #[]::vs) σ h:=by
 simpa [nZ,qp]using hc
theorem Px {e:TypeId} {s:List UInt8} (u:U) (hl:s.length<=9223372036854775807)
  (hK: ∀cap u' h',s.length<=cap->jD S0 u h u' h'->h.size<h'.size->s.length<=lS h' h.size->(∀(j:Nat) (b:UInt8),s[j]? =some b->Go.Ev.hv h' h.size j= .int .u8 b.toNat)->
   mq st σ h h'/\kT G r K KP (nD σ d (.slice (some ⟨h.size,0,none⟩) s.length cap)) h'):nZ G (.s2b e) d st r K KP [str s] σ h:=by
 refine⟨rfl,hl,λcap h1 h2=> ?_⟩
 rw[bl_str]
 refine hK cap _ _ h1 (jD.pushf S0 u h _ e (cap,cap+1) 0) zP ?_ (λj b hb=> ?_)
 ·rw[uo rfl];simp
 ·rw[yH rfl,aG,bM (by have:=(aB.1 hb).1;simpa using this),bL,hb]
  rfl
end Go.Ev
namespace Go.Ev
open Go Rep
/-! ### Maps from texts to integers -/
def oI(h:H)(b:Nat)(m:List UInt8->Option Int)(n:Nat):Prop:= ∃a c,h[b]? =some (.map a c)/\a.size=n/\(a.toList.map (·.key)).Nodup/\(∀x∈a.toList,∃s v,x.key=str s/\x.val= Jx JT v/\m s=some v)/\ ∀s v,m s=some v-> ∃x∈a.toList,x.key=str s
theorem CV{a b:List UInt8}(h:str a=str b):a=b:=by simpa [str]using h
theorem oI.lt{h:H}{b:Nat}{m:List UInt8->Option Int}{n:Nat}(k:oI h b m n):b<h.size:=by
 obtain⟨a,c,hb,_⟩:=k
 exact(bi.1 hb).1
theorem oI.step{S:Nat->Prop}{u u':U}{h h':H}{b:Nat}{m:List UInt8->Option Int}{n:Nat}(k:oI h b m n)(s:jD S u h u' h')(hn: ¬S b):oI h' b m n:=by
 have hl:=k.lt
 obtain⟨a,c,hb,k'⟩:=k
 exact⟨a,c,by rw[(s.same b hl hn).1];exact hb,k'⟩
theorem jD.pushO(S:Nat->Prop)(u:U)(h:H)(x:Obj):jD S u h (ub u h.size 0) (h.push x):=by
 refine⟨⟨zP,λb hb=> ?_,λb hb=>⟨zK hb,MZ hb⟩,λb hb o _=>uO hb⟩,λb hb _=>⟨pu zO,?_⟩⟩
 ·unfold ub;rw[af zO];exact ak _
 ·unfold ub;rw[af zO]
theorem vU{h:H}{b k:Nat}{x:Obj}(hb:b<h.size):(h.setIfInBounds b x)[k]? =if k=b then some x else h[k]? :=by
 by_cases e:k=b
 ·subst e;simp [hb]
 ·rw[af e,eD (gF e)]
theorem jD.setm{S:Nat->Prop}(u:U){h:H}{b:Nat}{a a':Array MapEntry}{c c':Nat}(hb:h[b]? =some (.map a c))(hS:S b):jD S u h u (h.setIfInBounds b (.map a' c')):=by
 have hl:=(bi.1 hb).1
 refine⟨⟨zP,λ_ _=>ak _,λi _=> ?_,λi _ j _=> ?_⟩,λi _ hn=>⟨?_,rfl⟩⟩
 ·unfold lS tJ
  rw[vU hl]
  by_cases e:i=b
  ·subst e;rw[ah rfl,hb];exact⟨rfl,rfl⟩
  ·rw[af e];exact⟨rfl,rfl⟩
 ·unfold Go.Ev.hv hc
  rw[vU hl]
  by_cases e:i=b
  ·subst e;rw[ah rfl,hb]
  ·rw[af e]
 ·rw[vU hl,af (by rintro rfl;exact hn hS)]
def zt(m:List UInt8->Option Int)(s:List UInt8)(v:Int):List UInt8->Option Int:=λt=>if t=s then some v else m t
theorem oI.keys{h:H}{b:Nat}{m:List UInt8->Option Int}{n:Nat}{a:Array MapEntry}{c:Nat}(k1: ∀x∈a.toList,∃s v,x.key=str s/\x.val= Jx JT v/\m s=some v): ∀x∈a.toList,MapKept.IsKey .string x.key:=λx hx=>by
 obtain⟨s,v,e,_⟩:=k1 x hx
 rw[e];trivial
section
variable {G:lq} {d:Option Nat} {st:su} {r:List St} {K:ku->H->Prop} {KP:List PanicEntry->H->Prop} {σ:ku} {h:H}
theorem xF(u:U)(hK: ∀u' h',jD S0 u h u' h'->oI h' h.size (λ_=>none) 0->mq st σ h h'/\kT G r K KP (nD σ d (.map (some h.size))) h'):nZ G .mkm d st r K KP [] σ h:=
 hK _ _ (jD.pushO S0 u h (.map #[] 0)) ⟨#[],0,zP,rfl,zP,λx hx=>by simp at hx,λs v hv=>by cases hv⟩
theorem oz{b n:Nat}{m:List UInt8->Option Int}{s:List UInt8}{ok:Bool}(k:oI h b m n)(hK:mq st σ h h/\kT G r K KP (nD σ d (mr (Jx JT ((m s).getD 0)) ok (m s).isSome)) h):
  nZ G (.look .string (Jx JT 0) ok) d st r K KP [.map (some b),str s] σ h:=by
 obtain⟨a,c,hb,hn,knd,k1,k2⟩:=k
 refine⟨a.toList,⟨a,c,hb,rfl⟩,trivial,oI.keys (h:=h) (b:=b) (n:=n) (c:=c) k1,λe he hk=> ?_,λhno=> ?_⟩
 ·obtain⟨t,v,e1,e2,e3⟩:=k1 e he
  have:t=s:=CV (e1.symm.trans hk)
  subst this
  rw[e3]at hK
  rw[e2];exact hK
 ·cases hm:m s with
  |none=>rw[hm]at hK;exact hK
  |some v=>
   obtain⟨x,hx,hk⟩:=k2 s v hm
   exact absurd hk (hno x hx)
theorem AY{b n:Nat}{m:List UInt8->Option Int}(k:oI h b m n)(hK:mq st σ h h/\kT G r K KP (nD σ d (Jx JT n)) h):nZ G .lenm d st r K KP [.map (some b)] σ h:=by
 obtain⟨a,c,hb,hn,knd,k1,k2⟩:=k
 refine⟨a.toList,⟨a,c,hb,rfl⟩,?_⟩
 rw[dm,hn];exact hK
theorem xG {b n:Nat} {m:List UInt8->Option Int} {s:List UInt8} {v:Int} (u:U) (k:oI h b m n)
  (hK: ∀h',jD (λi=>i=b) u h u h'->oI h' b (zt m s v) (if(m s).isSome then n else n+1)->mq st σ h h'/\kT G r K KP (nD σ d undef) h'):
  nZ G (.mput .string) d st r K KP [.map (some b),str s,Jx JT v] σ h:=by
 have hl:=k.lt
 obtain⟨a,c,hb,hn,knd,k1,k2⟩:=k
 refine⟨b,a,c,rfl,hb,trivial,oI.keys (h:=h) (b:=b) (n:=n) (c:=c) k1,λi e he hk=> ?_,λhno=> ?_⟩
 ·refine hK _ (jD.setm u hb rfl) ?_
  obtain⟨t,w,e1,e2,e3⟩:=k1 e (by rw[<-eu]at he;exact aF he)
  have:t=s:=CV (e1.symm.trans hk)
  subst this
  rw[e3]
  have hkeys:(a.modify i λx=>{x with key:=str t,val:= Jx JT v}).toList.map (·.key)=a.toList.map (·.key):=MapKept.modify_keys i _ (λe' he'=>by rw[he]at he';cases he';exact e1.symm)
  refine⟨_,c,by rw[vU hl,ah rfl],by simpa using hn,by rw[hkeys];exact knd,λx hx=> ?_,λt' v' hv'=> ?_⟩
  ·rw[jm]at hx
   obtain⟨j,hj,rfl⟩:=fq.1 hx
   rw[jo]
   have hj':j<a.toList.length:=by simpa using hj
   by_cases hij:i=j
   ·rw[ah hij]
    exact⟨t,v,rfl,rfl,by simp [zt]⟩
   ·rw[af hij]
    obtain⟨t',w',q1,q2,q3⟩:=k1 a.toList[j] (gP hj')
    by_cases ht:t'=t
    ·subst ht
     exfalso
     have hi':i<a.toList.length:=by rw[dm];exact(bi.1 he).1
     have hei:a.toList[i]=e:=by
      have:=(bi.1 he).2
      simpa using this
     exact hij ((List.getElem_inj (h₀:=by simpa using hi') (h₁:=by simpa using hj') knd).1 (by simp only[List.getElem_map];rw[hei,e1,q1]))
    ·exact⟨t',w',q1,q2,by simp [zt,ht,q3]⟩
  ·unfold zt at hv'
   have hmem: ∃x∈a.toList,x.key=str t':=by
    by_cases ht:t'=t
    ·subst ht;exact k2 t' w e3
    ·rw[af ht]at hv';exact k2 t' v' hv'
   obtain⟨x,hx,hxk⟩:=hmem
   have:str t'∈(a.modify i λx=>{x with key:=str t,val:= Jx JT v}).toList.map (·.key):=by rw[hkeys];exact bF.2 ⟨x,hx,hxk⟩
   obtain⟨y,hy,hyk⟩:=bF.1 this
   exact⟨y,hy,hyk⟩
 ·have hm:m s=none:=by
   cases hm:m s with
   |none=>rfl
   |some w=>obtain⟨x,hx,hk⟩:=k2 s w hm;exact absurd hk (hno x hx)
  refine hK _ (jD.setm u hb rfl) ?_
  rw[hm]
  refine⟨_,c+1,by rw[vU hl,ah rfl],by simp [hn],?_,λx hx=> ?_,λt' v' hv'=> ?_⟩
  ·rw[fo,bH]
   refine iB.2 ⟨knd,zP,λx hx y hy=> ?_⟩
   simp only[aS,bK,aY]at hy
   subst hy
   obtain⟨e,he,rfl⟩:=bF.1 hx
   exact hno e he
  ·rw[fo,aV,aY]at hx
   rcases hx with hx|rfl
   ·obtain⟨t',w',q1,q2,q3⟩:=k1 x hx
    have ht:t'≠s:=λq=>hno x hx (by rw[q1,q])
    exact⟨t',w',q1,q2,by simp [zt,ht,q3]⟩
   ·exact⟨s,v,rfl,rfl,by simp [zt]⟩
  ·unfold zt at hv'
   rw[fo]
   by_cases ht:t'=s
   ·subst ht;exact⟨_,aV.2 (.inr (aY.2 rfl)),rfl⟩
   ·rw[af ht]at hv'
    obtain⟨x,hx,hk⟩:=k2 t' v' hv'
    exact⟨x,by simp only[aV];exact .inl hx,hk⟩
end
end Go.Ev
namespace Go.Ev
open Go Rep
theorem yC {α:Type} [Rep α] {G:lq} {e e':TypeId} {bytes s:Nat} {z cs:List Value} {k p:Nat} {u:U} {h:H} {v:Value} {l:List α} {x:α} {d:Option Nat} {st:su} {r:List St} {K:ku->H->Prop} {KP:List PanicEntry->H->Prop} {σ:ku}
  (hp:p=h.size) (ho:lm k u h v l) (hx:rep u h x cs) (hs:s=sz α) (hz:z.length=sz α) (hk:k<=h.size) (hb:(l.length+1)*bytes<=140737488355328)
  (hK: ∀a n c u' h',lm k u' h' (.slice a n c) (l++[x])->jD (jL v) u h u' h'->mq st σ (h.push (.cells cs.toArray e')) h'/\kT G r K KP (nD σ d (.slice a n c)) h'):
  nZ G (.app e s bytes z) d st r K KP [v,.slice (some ⟨p,0,none⟩) 1 1] σ (h.push (.cells cs.toArray e')):=by
 subst hp;exact lM ho hx hs hz hk hb hK
theorem zT{p:Prop}(h:p:=by repeat (first|exact jD.refl _ _ _|assumption|apply jD.pZ)):p:=h
theorem zU{p:Prop}(h:p:=by repeat (first|(refine lU ?_;simp only[kw];done)|apply kG)):p:=h
theorem zW{p:Prop}(h:p:=by repeat (first|assumption|apply jR.pZ)):p:=h
theorem zY{p:Prop}(h:p:=by simp only[kw];omega):p:=h
end Go.Ev
namespace Edict
abbrev jM:=Int×Int×List UInt8×Int
abbrev jK:=Int×Int×List UInt8
abbrev uL:=Bool×Int
abbrev kZ:=List UInt8×List jM×Int
abbrev jZ:=Int×kZ×Int×jM×jM×Int
abbrev jY:=kZ×List jZ
abbrev mV:=Int×List uL
abbrev Test:=Int×uL×uL
abbrev oq:=mV×List mV×List Test×List mV×List (List UInt8)×Int
abbrev kK:=List UInt8×Int
abbrev sj:=Int×List Int
abbrev Gn:=List kK×List jK×List oq×List sj
abbrev alN:=List UInt8×List jK
def jM.enc(t:jM):List Go.Value:=[Jx JT t.1,Jx JT t.2.1,Go.Ev.str t.2.2.1,Jx JT t.2.2.2]
end Edict
namespace Go.Ev
open Go Edict
variable {cs:List Value} {h:H} {u:U}
theorem mZ{k:jK}:Rep.rep u h k cs=(cs=[Jx JT k.1,Jx JT k.2.1,str k.2.2]):=by simp [lg,mG,mE]
theorem wC{k:uL}:Rep.rep u h k cs=(cs=[.bool k.1,Jx JT k.2]):=by simp [lg,mG,Pw]
theorem ko{k:jM}:Rep.rep u h k cs=(cs=jM.enc k):=by simp [lg,mG,mE,jM.enc]
theorem Ak{k:kK}:Rep.rep u h k cs=(cs=[str k.1,Jx JT k.2]):=by simp [lg,mG,mE]
theorem Jb{k:Test}:Rep.rep u h k cs=(cs=[Jx JT k.1,.bool k.2.1.1,Jx JT k.2.1.2,.bool k.2.2.1,Jx JT k.2.2.2]):=by simp [lg,mG,Pw]
theorem kE{k:kZ}:Rep.rep u h k cs= ∃v,cs=[str k.1,v,Jx JT k.2.2]/\jS u h v k.2.1:=by
 simp only[lg,mG,mE,mf];apply propext;constructor
 ·rintro ⟨_,_,rfl,rfl,_,_,rfl,⟨v,rfl,hs⟩,rfl⟩;exact⟨v,rfl,hs⟩
 ·rintro ⟨v,rfl,hs⟩;exact⟨_,_,rfl,rfl,_,_,rfl,⟨v,rfl,hs⟩,rfl⟩
theorem nA{k:mV}:Rep.rep u h k cs= ∃v,cs=[Jx JT k.1,v]/\jS u h v k.2:=by
 simp only[lg,mG,mf];apply propext;constructor
 ·rintro ⟨_,_,rfl,rfl,v,rfl,hs⟩;exact⟨v,rfl,hs⟩
 ·rintro ⟨v,rfl,hs⟩;exact⟨_,_,rfl,rfl,v,rfl,hs⟩
theorem xf{k:sj}:Rep.rep u h k cs= ∃v,cs=[Jx JT k.1,v]/\jS u h v k.2:=by
 simp only[lg,mG,mf];apply propext;constructor
 ·rintro ⟨_,_,rfl,rfl,v,rfl,hs⟩;exact⟨v,rfl,hs⟩
 ·rintro ⟨v,rfl,hs⟩;exact⟨_,_,rfl,rfl,v,rfl,hs⟩
theorem kP{k:jZ}:Rep.rep u h k cs= ∃v,cs= Jx JT k.1::str k.2.1.1::v:: Jx JT k.2.1.2.2:: Jx JT k.2.2.1::(jM.enc k.2.2.2.1++(jM.enc k.2.2.2.2.1++[Jx JT k.2.2.2.2.2]))/\jS u h v k.2.1.2.1:=by
 rw[lg];simp only[lg (β:=Int×jM×jM×Int),lg (β:=jM×jM×Int),lg (β:=jM×Int),lg (α:=jM) (β:=Int),kE,ko,mG];apply propext;constructor
 ·rintro ⟨_,_,rfl,rfl,_,_,rfl,⟨v,rfl,hs⟩,_,_,rfl,rfl,_,_,rfl,rfl,_,_,rfl,rfl,rfl⟩;exact⟨v,rfl,hs⟩
 ·rintro ⟨v,rfl,hs⟩;exact⟨_,_,rfl,rfl,_,_,rfl,⟨v,rfl,hs⟩,_,_,rfl,rfl,_,_,rfl,rfl,_,_,rfl,rfl,rfl⟩
theorem lH{k:jY}:Rep.rep u h k cs= ∃v w,cs=[str k.1.1,v,Jx JT k.1.2.2,w]/\jS u h v k.1.2.1/\jS u h w k.2:=by
 rw[lg];simp only[kE,mf];apply propext;constructor
 ·rintro ⟨_,_,rfl,⟨v,rfl,hs⟩,w,rfl,ht⟩;exact⟨v,w,rfl,hs,ht⟩
 ·rintro ⟨v,w,rfl,hs,ht⟩;exact⟨_,_,rfl,⟨v,rfl,hs⟩,w,rfl,ht⟩
theorem sK{k:oq}:Rep.rep u h k cs= ∃v0 v1 v2 v3 v4,cs=[Jx JT k.1.1,v0,v1,v2,v3,v4,Jx JT k.2.2.2.2.2]/\jS u h v0 k.1.2/\jS u h v1 k.2.1/\jS u h v2 k.2.2.1/\jS u h v3 k.2.2.2.1/\jS u h v4 k.2.2.2.2.1:=by
 rw[lg];simp only[lg (β:=List Test×List mV×List (List UInt8)×Int),lg (β:=List mV×List (List UInt8)×Int),lg (β:=List (List UInt8)×Int),lg (α:=List (List UInt8)) (β:=Int),nA,mf,mG];apply propext;constructor
 ·rintro ⟨_,_,rfl,⟨v0,rfl,h0⟩,_,_,rfl,⟨v1,rfl,h1⟩,_,_,rfl,⟨v2,rfl,h2⟩,_,_,rfl,⟨v3,rfl,h3⟩,_,_,rfl,⟨v4,rfl,h4⟩,rfl⟩;exact⟨v0,v1,v2,v3,v4,rfl,h0,h1,h2,h3,h4⟩
 ·rintro ⟨v0,v1,v2,v3,v4,rfl,h0,h1,h2,h3,h4⟩;exact⟨_,_,rfl,⟨v0,rfl,h0⟩,_,_,rfl,⟨v1,rfl,h1⟩,_,_,rfl,⟨v2,rfl,h2⟩,_,_,rfl,⟨v3,rfl,h3⟩,_,_,rfl,⟨v4,rfl,h4⟩,rfl⟩
theorem nH:Rep.sz jY=4:=rfl
theorem EG:Rep.sz jK=3:=rfl
theorem Yn:Rep.sz uL=2:=rfl
theorem lG:Rep.sz jM=4:=rfl
theorem NQ:Rep.sz kK=2:=rfl
theorem agj:Rep.sz Test=5:=rfl
theorem qK:Rep.sz kZ=3:=rfl
theorem Vu:Rep.sz mV=2:=rfl
theorem lJ:Rep.sz jZ=14:=rfl
theorem agk:Rep.sz oq=7:=rfl
theorem ac7:Rep.sz sj=2:=rfl
end Go.Ev
