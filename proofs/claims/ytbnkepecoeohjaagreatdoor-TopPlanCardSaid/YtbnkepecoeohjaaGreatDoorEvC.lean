/- A part of the proof. -/
import Derived.Test.YtbnkepecoeohjaaGreatDoorEnd
set_option linter.all false
namespace Go.Ev
open Go
section
set_option linter.unusedVariables false
variable {h:H}
theorem oV{b o:Nat}:sO h b o 1=[hv h b o]:=(rfl)
theorem qX{b o:Nat}:sO h b o 2=[hv h b o,hv h b (o+1)]:=(rfl)
theorem vD{b o:Nat}:sO h b o 3=[hv h b o,hv h b (o+1),hv h b (o+2)]:=(rfl)
theorem uH{b o:Nat}:sO h b o 4=[hv h b o,hv h b (o+1),hv h b (o+2),hv h b (o+3)]:=(rfl)
theorem Vi{b o:Nat}:sO h b o 5=[hv h b o,hv h b (o+1),hv h b (o+2),hv h b (o+3),hv h b (o+4)]:=(rfl)
theorem El{b o:Nat}:sO h b o 6=[hv h b o,hv h b (o+1),hv h b (o+2),hv h b (o+3),hv h b (o+4),hv h b (o+5)]:=(rfl)
theorem JP{b o:Nat}:sO h b o 7=[hv h b o,hv h b (o+1),hv h b (o+2),hv h b (o+3),hv h b (o+4),hv h b (o+5),hv h b (o+6)]:=(rfl)
theorem Zu{b o:Nat}:sO h b o 8=[hv h b o,hv h b (o+1),hv h b (o+2),hv h b (o+3),hv h b (o+4),hv h b (o+5),hv h b (o+6),hv h b (o+7)]:=(rfl)
theorem qR{b o:Nat}:sO h b o 11=[hv h b o,hv h b (o+1),hv h b (o+2),hv h b (o+3),hv h b (o+4),hv h b (o+5),hv h b (o+6),hv h b (o+7),hv h b (o+8),hv h b (o+9),hv h b (o+10)]:=(rfl)
theorem xF{b o:Nat}:sO h b o 14=[hv h b o,hv h b (o+1),hv h b (o+2),hv h b (o+3),hv h b (o+4),hv h b (o+5),hv h b (o+6),hv h b (o+7),hv h b (o+8),hv h b (o+9),hv h b (o+10),hv h b (o+11),hv h b (o+12),hv h b (o+13)]:=(rfl)
theorem aeH{t:TypeId}{x:Value}:s1 (.mki t) x h=True:=(rfl)
theorem agh{t:TypeId}{x:Value}:v1 (.mki t) x h= .iface t x:=(rfl)
theorem aeI{t:TypeId}{x:Value}{neg:Bool}:v2 (.eqn .iface neg) (.iface t x) .nilIface h= .bool neg:=by cases neg<;>simp [v2,uM]
theorem acs{t:TypeId}{x:Value}{neg:Bool}:s2 (.eqn .iface neg) (.iface t x) .nilIface h=True:=by simp [s2,uM]
theorem acu{neg:Bool}:v2 (.eqn .iface neg) .nilIface .nilIface h= .bool (!neg):=by cases neg<;>simp [v2,uM]
theorem Zv{neg:Bool}:s2 (.eqn .iface neg) .nilIface .nilIface h=True:=by simp [s2,uM]
theorem agi{a b:List Value}{neg:Bool}{ks:List Kc}:v2 (.eqs neg ks) (.agg a.toArray) (.agg b.toArray) h= .bool (if neg then !Fz a b else Fz a b):=(rfl)
theorem aeJ{a b:List Value}{neg:Bool}{ks:List Kc}:s2 (.eqs neg ks) (.agg a.toArray) (.agg b.toArray) h=(mY ks a=true/\mY ks b=true):=(rfl)
theorem ahM:mY [] []=true:=(rfl)
theorem ahN{k:Kc}{ks:List Kc}{v:Value}{vs:List Value}:mY (k::ks) (v::vs)=(Gi k v && mY ks vs):=(rfl)
theorem ahO{k k':IntKind}{n:Int}:Gi (.int k) (.int k' n)=decide (k=k'):=(rfl)
theorem ahP{s:List UInt8}:Gi .str (str s)=true:=(rfl)
theorem ahQ{b:Bool}:Gi .bool (.bool b)=true:=(rfl)
theorem agj:Fz [] []=true:=(rfl)
theorem agk{a b:Value}{x y:List Value}:Fz (a::x) (b::y)=(ceq a b && Fz x y):=(rfl)
theorem agl{k k':IntKind}{a b:Int}:ceq (.int k a) (.int k' b)=decide (a=b):=(rfl)
theorem agm{a b:List UInt8}:ceq (str a) (str b)=decide (a=b):=by simp [ceq,str]
theorem agn{a b:Bool}:ceq (.bool a) (.bool b)=decide (a=b):=(rfl)
theorem agp{G:mG}{d:Option Nat}{st:uw}{r:List St}{K:lm->H->Prop}{KP:List PanicEntry->H->Prop}{σ:lm}{e:TypeId}{sz len:Nat}{z:List Value}{ps:List Nat}{vs:List Value}:sP G (.bsl e sz len z ps) d st r K KP vs σ h=(ps.length=vs.length/\AV sz len (ps.zip vs)/\nS st σ h (h.push (.cells (qC sz z (ps.zip vs)).toArray e))/\mf G r K KP (qU σ d (.slice (some ⟨h.size,0,none⟩) len len)) (h.push (.cells (qC sz z (ps.zip vs)).toArray e))):=(rfl)
theorem ahR{sz len:Nat}:AV sz len []=True:=(rfl)
theorem ahS{sz len i:Nat}{v:Value}{r:List (Nat×Value)}:AV sz len ((i,v)::r)=(v.cells.size=sz/\i<len/\AV sz len r):=(rfl)
theorem ahT{sz:Nat}{l:List Value}:qC sz l []=l:=(rfl)
theorem aeK{sz i:Nat}{l m:List Value}{r:List (Nat×Value)}:qC sz l ((i,.agg m.toArray)::r)=qC sz (OV l (i*sz) m) r:=by simp only[qC,OW]
theorem LH{sz i:Nat}{l:List Value}{v:Value}{r:List (Nat×Value)}(hv:v.cells= #[v]):qC sz l ((i,v)::r)=qC sz (l.set (i*sz) v) r:=by simp only[qC,yJ hv]
theorem aeL{sz i:Nat}{l:List Value}{k:IntKind}{n:Int}{r:List (Nat×Value)}:qC sz l ((i,.int k n)::r)=qC sz (l.set (i*sz) (.int k n)) r:=LH (ZP k n)
theorem acv{sz i:Nat}{l:List Value}{b:Bool}{r:List (Nat×Value)}:qC sz l ((i,.bool b)::r)=qC sz (l.set (i*sz) (.bool b)) r:=LH (SX b)
theorem aeM{sz i:Nat}{l:List Value}{s:List UInt8}{r:List (Nat×Value)}:qC sz l ((i,str s)::r)=qC sz (l.set (i*sz) (str s)) r:=LH (ZQ s)
theorem Zw{sz i:Nat}{l:List Value}{a:Option Addr}{m c:Nat}{r:List (Nat×Value)}:qC sz l ((i,.slice a m c)::r)=qC sz (l.set (i*sz) (.slice a m c)) r:=LH (LW a m c)
theorem agq{G:mG}{d:Option Nat}{st:uw}{r:List St}{K:lm->H->Prop}{KP:List PanicEntry->H->Prop}{σ:lm}{e:TypeId}{sz bytes:Nat}{z:List Value}{k k':IntKind}{l c:Int}:sP G (.mks e sz bytes z) d st r K KP [.int k l,.int k' c] σ h=(0<=l/\l<=c/\c*bytes<=140737488355328/\nS st σ h (h.push (.cells (qx z c.toNat).toArray e))/\mf G r K KP (qU σ d (.slice (some ⟨h.size,0,none⟩) l.toNat c.toNat)) (h.push (.cells (qx z c.toNat).toArray e))):=by simp [sP,rT,lI,ti]
theorem acw{G:mG}{d:Option Nat}{st:uw}{r:List St}{K:lm->H->Prop}{KP:List PanicEntry->H->Prop}{σ:lm}{g:FuncId}{first cap:List Value}{vs:List Value}:sP G .callv d st r K KP (.func (.func g) first.toArray cap.toArray::vs) σ h=G g (first++vs++cap) h (λv h'=>nS st σ h h'/\mf G r K KP (qU σ d v) h') KP:=by simp [sP,rT]
theorem aeo{G:mG}{d:Option Nat}{st:uw}{r:List St}{K:lm->H->Prop}{KP:List PanicEntry->H->Prop}{σ:lm}{fn:Fn}{k:Nat}{vs:List Value}:sP G (.mkf fn k) d st r K KP vs σ h=(nS st σ h (h)/\mf G r K KP (qU σ d (.func fn (vs.take k).toArray (vs.drop k).toArray)) (h)):=(rfl)
theorem aeN{k k':IntKind}{a b:Int}{mx:Bool}:s2 (.mm mx) (.int k a) (.int k' b) h=True:=by simp [s2,lI]
theorem agr{k k':IntKind}{a b:Int}:v2 (.mm false) (.int k a) (.int k' b) h= .int k (if b<a then b else a):=by by_cases e:b<a<;>simp [v2,ti,tk,e]
theorem ags{k k':IntKind}{a b:Int}:v2 (.mm true) (.int k a) (.int k' b) h= .int k (if a<b then b else a):=by by_cases e:a<b<;>simp [v2,ti,tk,e]
theorem aeO{b o n:Nat}:s1 (.arr n) (.pointer (some ⟨b,o,none⟩)) h=True:=(rfl)
theorem agt{b o n:Nat}:v1 (.arr n) (.pointer (some ⟨b,o,none⟩)) h= .slice (some ⟨b,o,none⟩) n n:=(rfl)
theorem acx{l n:Nat}{a:Addr}{k:IntKind}{i:Int}:s2 (.idxP l n) (.pointer (some a)) (.int k i) h=(0<=i/\i<l):=by simp [s2,lI,ti]
theorem aeP{l n b o:Nat}{k:IntKind}{i:Int}:v2 (.idxP l n) (.pointer (some ⟨b,o,none⟩)) (.int k i) h= .pointer (some ⟨b,o+i.toNat*n,none⟩):=by simp [v2,ti,Xz]
theorem SE{G:mG}{Q:qm}{σ:lm}{a b:S}:wpS G (.both a b) Q σ h=(wpS G a Q σ h/\wpS G b Q σ h):=(rfl)
theorem aeQ(n:Nat):(0<=(n:Int))=True:=by simp
theorem aeR(a b:Nat):((a:Int)<=(b:Int))=(a<=b):=by simp
theorem aeS(a b:Nat):((a:Int)<(b:Int))=(a<b):=by simp
theorem aeT{h:H}{o b:Nat}(k:o<hsz h b):(o<hsz h b)=True:=af k
theorem aeU{h:H}{o b:Nat}(k:o<=hsz h b):(o<=hsz h b)=True:=af k
attribute [go_sem] Bool.true_eq_false decide_true decide_false Bool.true_or Bool.or_true jW jY Bool.false_and Bool.and_false
attribute [go_sem low] aeT aeU
attribute [go_sem] aeQ aeR aeS Nat.not_le jq Nat.lt_irrefl
attribute [go_sem] oV qX vD uH Vi El JP Zu qR xF aeH agh aeI acs acu Zv agi aeJ ahM ahN ahO ahP ahQ agj agk agl agm agn agp ahR ahS ahT aeK aeL acv aeM Zw agq aeo aeN agr ags aeO agt acx aeP List.zip_cons_cons List.zip_nil_left Option.isNone_none Option.isNone_some
end
/-! ### Settled cells -/
abbrev U:=Nat->Nat
def ub(u:U)(b n:Nat):U:=λi=>if i=b then n else u i
structure Ge (u:U) (h:H) (u':U) (h':H):Prop where
 sz:h.size<=h'.size
 up: ∀b,b<h.size->u b<=u' b
 hs: ∀b,b<h.size->hsz h' b=hsz h b/\wH h' b=wH h b
 cl: ∀b,b<h.size-> ∀o,o<u b->hv h' b o=hv h b o
theorem Ge.refl(u:U)(h:H):Ge u h u h:=⟨aH _,λ_ _=>aH _,λ_ _=>⟨rfl,rfl⟩,λ_ _ _ _=>rfl⟩
theorem Ge.trans{u u1 u2:U}{h h1 h2:H}(a:Ge u h u1 h1)(b:Ge u1 h1 u2 h2):Ge u h u2 h2:=by
 refine⟨aY a.sz b.sz,λi hi=>aY (a.up i hi) (b.up i (bM hi a.sz)),λi hi=> ?_,λi hi o ho=> ?_⟩
 ·have hi':=bM hi a.sz
  exact⟨(b.hs i hi').1.trans (a.hs i hi).1,(b.hs i hi').2.trans (a.hs i hi).2⟩
 ·exact(b.cl i (bM hi a.sz) o (bM ho (a.up i hi))).trans (a.cl i hi o ho)
structure kG (S:Nat->Prop) (u:U) (h:H) (u':U) (h':H):Prop where
 ge:Ge u h u' h'
 same: ∀b,b<h.size-> ¬S b->h'[b]? =h[b]? /\u' b=u b
def S0:Nat->Prop:=λ_=>False
theorem kG.refl(S:Nat->Prop)(u:U)(h:H):kG S u h u h:=⟨.refl u h,λ_ _ _=>⟨rfl,rfl⟩⟩
theorem kG.trans{S S2:Nat->Prop}{u u1 u2:U}{h h1 h2:H}(a:kG S u h u1 h1)(b:kG S2 u1 h1 u2 h2)(hs: ∀b,b<h.size->S2 b->S b):kG S u h u2 h2:=by
 refine⟨a.ge.trans b.ge,λi hi hn=> ?_⟩
 obtain⟨a1,a2⟩:=a.same i hi hn
 obtain⟨b1,b2⟩:=b.same i (bM hi a.ge.sz) (λh=>hn (hs i hi h))
 exact⟨b1.trans a1,b2.trans a2⟩
theorem kG.tZ{S:Nat->Prop}{u u1 u2:U}{h h1 h2:H}(a:kG S u h u1 h1)(b:kG S0 u1 h1 u2 h2):kG S u h u2 h2:=a.trans b (λ_ _ h=>h.elim)
theorem kG.mono{S S':Nat->Prop}{u u':U}{h h':H}(a:kG S u h u' h')(hs: ∀b,b<h.size->S b->S' b):kG S' u h u' h':=
 ⟨a.ge,λb hb hn=>a.same b hb (λh=>hn (hs b hb h))⟩
theorem kG.ext{u u':U}{h h':H}(a:kG S0 u h u' h'):Zy h h':=⟨a.ge.sz,λb hb=>(a.same b hb (λh=>h)).1⟩
theorem kG.pushf(S:Nat->Prop)(u:U)(h:H)(c:Array Value)(t:TypeId)(f:Nat×Nat)(n:Nat):kG S u h (ub u h.size n) (h.push (.cells c t f)):=by
 refine⟨⟨by simp,λb hb=> ?_,λb hb=>⟨LX hb,LY hb⟩,λb hb o _=>ZR hb⟩,λb hb _=>⟨pq (by omega),?_⟩⟩
 ·unfold ub;rw[ah (by omega)];exact aH _
 ·unfold ub;rw[ah (by omega)]
theorem kG.push(S:Nat->Prop)(u:U)(h:H)(c:Array Value)(t:TypeId)(n:Nat):kG S u h (ub u h.size n) (h.push (.cells c t)):=kG.pushf S u h c t (0,0) n
theorem kG.qZ(S:Nat->Prop)(u:U)(h:H)(c:Array Value)(t:TypeId):kG S u h (ub u h.size 0) (h.push (.cells c t)):=kG.push S u h c t 0
theorem LJ{h:H}{b o k i:Nat}{v:Value}(hne:k≠b\/i≠o):Go.Ev.hv (lh h b o v) k i=Go.Ev.hv h k i:=by
 unfold Go.Ev.hv hc
 rw[nZ]
 by_cases hk:k=b
 ·subst hk
  rw[ay rfl]
  cases hx:h[k]? with
  |none=>rfl
  |some x=>
   cases x<;>simp only[bH]
   rw[eH (by omega)]
 ·rw[ah hk]
theorem kG.set{S:Nat->Prop}(u:U)(h:H){b o:Nat}(v:Value)(hb:S b)(ho:u b<=o):kG S u h u (lh h b o v):=by
 refine⟨⟨by rw[qz];exact aH _,λ_ _=>aH _,λb _=>⟨De,Ma⟩,λi hi j hj=>LJ ?_⟩,λi hi hn=>⟨?_,rfl⟩⟩
 ·by_cases e:i=b
  ·subst e;right;omega
  ·exact .inl e
 ·rw[nZ,ah (by rintro rfl;exact hn hb)]
theorem kG.settle{S:Nat->Prop}(u:U)(h:H){b n:Nat}(hb:S b)(hn:u b<=n):kG S u h (ub u b n) h:=by
 refine⟨⟨aH _,λi _=> ?_,λ_ _=>⟨rfl,rfl⟩,λ_ _ _ _=>rfl⟩,λi _ hni=>⟨rfl,?_⟩⟩
 ·unfold ub;split
  ·rename_i e;subst e;exact hn
  ·exact aH _
 ·unfold ub;rw[ah (by rintro rfl;exact hni hb)]
theorem mX: ∀(l:List Value) (h:H) (b o:Nat),(kU h b o l).size=h.size
 |[],_,_,_=>rfl
 |v::l,h,b,o=>by rw[kU,mX l,qz]
theorem lu: ∀(l:List Value) (h:H) (b o k:Nat),hsz (kU h b o l) k=hsz h k
 |[],_,_,_,_=>rfl
 |v::l,h,b,o,k=>by rw[kU,lu l,De]
theorem lw: ∀(l:List Value) (h:H) (b o k:Nat),wH (kU h b o l) k=wH h k
 |[],_,_,_,_=>rfl
 |v::l,h,b,o,k=>by rw[kU,lw l,Ma]
theorem yE: ∀(l:List Value) (h:H) (b o i:Nat),o+l.length<=hsz h b->Go.Ev.hv (kU h b o l) b i=if o<=i/\i<o+l.length then l.getD (i - o) undef else Go.Ev.hv h b i
 |[],_,_,o,i,_=>by rw[ah (by simp)];rfl
 |v::l,h,b,o,i,hl=>by
  simp only[aM]at hl ⊢
  rw[kU,yE l _ _ _ _ (by rw[De];omega)]
  by_cases h1:o+1<=i/\i<o+1+l.length
  ·rw[ay h1,ay (by omega),show i - o=(i - (o+1))+1 by omega,iX]
  ·rw[ah h1]
   by_cases h2:i=o
   ·subst h2
    rw[ay (by omega),OX (by omega),ay ⟨rfl,rfl⟩];simp
   ·rw[ah (by omega),LJ (.inr h2)]
theorem zJ: ∀(l:List Value) (h:H) (b o k:Nat),k≠b->(kU h b o l)[k]? =h[k]?
 |[],_,_,_,_,_=>rfl
 |v::l,h,b,o,k,hk=>by rw[kU,zJ l _ _ _ _ hk,nZ,ah hk]
theorem kG.sets{S:Nat->Prop}(u:U)(h:H){b o:Nat}(l:List Value)(hb:S b)(ho:u b<=o)(hl:o+l.length<=hsz h b):kG S u h u (kU h b o l):=by
 refine⟨⟨by rw[mX];exact aH _,λ_ _=>aH _,λb _=>⟨lu ..,lw ..⟩,λi hi j hj=> ?_⟩,λi hi hn=>⟨zJ _ _ _ _ _ (by rintro rfl;exact hn hb),rfl⟩⟩
 by_cases e:i=b
 ·subst e;rw[yE _ _ _ _ _ hl,ah (by omega)]
 ·unfold Go.Ev.hv hc;rw[zJ _ _ _ _ _ e]
/-! ### Data of a type -/
class Rep (α:Type) where
 sz:Nat
 rep:U->H->α->List Value->Prop
 wf:α->Prop
 bulk:α->Nat
 szp:0<sz
 len: ∀{u h a cs},rep u h a cs->cs.length=sz
 ok: ∀{u h a cs},rep u h a cs->cs.all mg=true
 mono: ∀{u h u' h' a cs},Ge u h u' h'->rep u h a cs->rep u' h' a cs
 pos: ∀a,1<=bulk a
open Rep
instance:Rep Int where
 sz:=1
 rep _ _ n cs:=cs=[.int .i64 n]
 wf n:= -9223372036854775808<=n/\n<=9223372036854775807
 bulk _:=1
 szp:=Nat.one_pos
 len h:=by subst h;rfl
 ok h:=by subst h;rfl
 mono _ h:=h
 pos _:=aH _
instance:Rep Bool where
 sz:=1
 rep _ _ n cs:=cs=[.bool n]
 wf _:=True
 bulk _:=1
 szp:=Nat.one_pos
 len h:=by subst h;rfl
 ok h:=by subst h;rfl
 mono _ h:=h
 pos _:=aH _
instance repStr:Rep (List UInt8) where
 sz:=1
 rep _ _ s cs:=cs=[str s]
 wf s:=s.length<=maxLen
 bulk s:=s.length+1
 szp:=Nat.one_pos
 len h:=by subst h;rfl
 ok h:=by subst h;rfl
 mono _ h:=h
 pos _:=by omega
instance repProd {α β:Type} [Rep α] [Rep β]:Rep (α×β) where
 sz:=sz α+sz β
 rep u h p cs:= ∃c1 c2,cs=c1++c2/\rep u h p.1 c1/\rep u h p.2 c2
 wf p:=wf p.1/\wf p.2
 bulk p:=bulk p.1+bulk p.2
 szp:=Nat.add_pos_left szp _
 len:=fun⟨_,_,h,h1,h2⟩=>by rw[h,aN,len h1,len h2]
 ok:=fun⟨_,_,h,h1,h2⟩=>by rw[h,fo,ok h1,ok h2];rfl
 mono g:=fun⟨_,_,h,h1,h2⟩=>⟨_,_,h,mono g h1,mono g h2⟩
 pos p:=by have:=pos p.1;omega
def kM{α:Type} [Rep α](u:U)(h:H)(v:Value)(l:List α):Prop:= ∃a n c,v= .slice a n c/\n=l.length/\n<=c/\c<=maxLen/\(a=none->c=0)/\
 (l≠[]-> ∃b o,a=some ⟨b,o,none⟩/\b<h.size/\o+l.length*sz α<=u b/\o+l.length*sz α<=hsz h b/\ ∀i x,l[i]? =some x->rep u h x (sO h b (o+i*sz α) (sz α)))
def Em{α:Type} [Rep α]:List α->Nat
 |[]=>1
 |x::l=>bulk x+Em l
theorem JQ{α:Type} [Rep α]: ∀l:List α,l.length+1<=Em l
 |[]=>aH _
 |x::l=>by have:=JQ l;have:=pos x;simp only[Em,aM];omega
theorem SF{u u':U}{h h':H}(g:Ge u h u' h'){b o n:Nat}(hb:b<h.size)(ho:o+n<=u b):sO h' b o n=sO h b o n:=by
 unfold sO
 refine kg λj hj=>g.cl b hb _ ?_
 have:=fF.1 hj;omega
theorem vZ{i n s:Nat}(hi:i<n):i*s+s<=n*s:=by
 have:=eO s (Nat.succ_le_of_lt hi)
 rw[iO]at this;exact this
theorem kM.mono{α:Type} [Rep α]{u u':U}{h h':H}{v:Value}{l:List α}(g:Ge u h u' h')(hs:kM u h v l):kM u' h' v l:=by
 obtain⟨a,n,c,h1,h2,h3,h4,h5,h6⟩:=hs
 refine⟨a,n,c,h1,h2,h3,h4,h5,λhl=> ?_⟩
 obtain⟨b,o,e,hb,hu,hz,hr⟩:=h6 hl
 refine⟨b,o,e,bM hb g.sz,aY hu (g.up b hb),by rw[(g.hs b hb).1];exact hz,λi x hx=> ?_⟩
 have hi:=(aJ.1 hx).1
 have:=vZ (s:=sz α) hi
 rw[SF g hb (by omega)]
 exact Rep.mono g (hr i x hx)
instance repList {α:Type} [Rep α]:Rep (List α) where
 sz:=1
 rep u h l cs:= ∃v,cs=[v]/\kM u h v l
 wf l:=l.length<=maxLen/\ ∀x∈l,wf x
 bulk:=Em
 szp:=Nat.one_pos
 len:=fun⟨_,h,_⟩=>by rw[h];rfl
 ok:=fun⟨_,h,a,n,c,e,_⟩=>by rw[h,e];rfl
 mono g:=fun⟨v,h,hs⟩=>⟨v,h,hs.mono g⟩
 pos l:=by have:=JQ l;omega
theorem lD{u:U}{h:H}{n:Int}{cs:List Value}:rep u h n cs=(cs=[.int .i64 n]):=rfl
theorem vE{u:U}{h:H}{n:Bool}{cs:List Value}:rep u h n cs=(cs=[.bool n]):=rfl
theorem qK{u:U}{h:H}{n:List UInt8}{cs:List Value}:rep u h n cs=(cs=[str n]):=rfl
theorem qi{α:Type} [Rep α]{u:U}{h:H}{l:List α}{cs:List Value}:rep u h l cs=(∃v,cs=[v]/\kM u h v l):=rfl
theorem mO{α β:Type} [Rep α] [Rep β]{u:U}{h:H}{p:α×β}{cs:List Value}:rep u h p cs=(∃c1 c2,cs=c1++c2/\rep u h p.1 c1/\rep u h p.2 c2):=rfl
theorem nM:sz Int=1:=rfl
theorem acy{α β:Type} [Rep α] [Rep β]:sz (α×β)=sz α+sz β:=rfl
theorem kM.sl{α:Type} [Rep α]{u:U}{h:H}{v:Value}{l:List α}(hs:kM u h v l): ∃a c,v= .slice a l.length c/\l.length<=c/\c<=maxLen:=by
 obtain⟨a,n,c,h1,h2,h3,h4,h5,h6⟩:=hs
 subst h2;exact⟨a,c,h1,h3,h4⟩
theorem kM.row{α:Type} [Rep α]{u:U}{h:H}{a:Option Addr}{n c:Nat}{l:List α}(hs:kM u h (.slice a n c) l)(i:Nat)(x:α)(hx:l[i]? =some x):
  ∃b o,a=some ⟨b,o,none⟩/\b<h.size/\o+i*sz α+sz α<=u b/\o+i*sz α+sz α<=hsz h b/\rep u h x (sO h b (o+i*sz α) (sz α)):=by
 obtain⟨a',n',c',h1,h2,h3,h4,h5,h6⟩:=hs
 cases h1
 have hi:=(aJ.1 hx).1
 obtain⟨b,o,e,hb,hu,hz,hr⟩:=h6 (by rintro rfl;simp at hx)
 have:=vZ (s:=sz α) hi
 exact⟨b,o,e,hb,by omega,by omega,hr i x hx⟩
theorem kM.nil{α:Type} [Rep α](u:U)(h:H):kM u h (.slice none 0 0) ([]:List α):=⟨none,0,0,rfl,rfl,aH _,az _,λ_=>rfl,λh=>absurd rfl h⟩
theorem kM.rows{α:Type} [Rep α]{u:U}{h:H}{a:Option Addr}{n c:Nat}{l:List α}(hs:kM u h (.slice a n c) l):
  n=l.length/\(a=none->n=0)/\ ∃news:List Value,Au h a (n*sz α) news/\news.length=n*sz α/\news.all mg=true/\ ∀i x,l[i]? =some x->rep u h x ((news.drop (i*sz α)).take (sz α)):=by
 obtain⟨a',n',c',h1,h2,h3,h4,h5,h6⟩:=hs
 cases h1
 subst h2
 refine⟨rfl,λe=>by have:=h5 e;omega,?_⟩
 by_cases hl:l=[]
 ·subst hl
  exact⟨[],.inl ⟨by simp,rfl⟩,by simp,rfl,λi x hx=>by simp at hx⟩
 ·obtain⟨b,o,e,hb,hu,hz,hr⟩:=h6 hl
  subst e
  have hrow: ∀i,i<l.length->((sO h b o (l.length*sz α)).drop (i*sz α)).take (sz α)=sO h b (o+i*sz α) (sz α):=λi hi=>by
   have:=vZ (s:=sz α) hi
   unfold sO
   apply bW
   intro j
   simp only[bV,dz,aR]
   by_cases hj:j<sz α
   ·rw[ay hj,bT (by omega),bT hj]
    simp [dY]
   ·rw[ah hj,aW (by simpa using hj)];rfl
  refine⟨sO h b o (l.length*sz α),.inr ⟨hz,rfl⟩,by simp [sO],?_,λi x hx=> ?_⟩
  ·rw[bU]
   intro c hc
   obtain⟨j,hj,rfl⟩:=bq.1 hc
   rw[fF]at hj
   have hp:=szp (α:=α)
   have hi:j / sz α<l.length:=Nat.div_lt_of_lt_mul (by rw[kz];exact hj)
   have h7:=ok (hr (j / sz α) l[j / sz α] (by simp [hi]))
   rw[bU]at h7
   have h8:=Nat.div_add_mod j (sz α)
   have h9:=Nat.mod_lt j hp
   refine h7 _ (bq.2 ⟨j % sz α,fF.2 h9,?_⟩)
   have:o+j / sz α*sz α+j % sz α=o+j:=by rw[kz (j / sz α)];omega
   rw[this]
  ·rw[hrow i (aJ.1 hx).1]
   exact hr i x hx
/-! ### A slice that the call has made, and adds to -/
def kN(v:Value)(b:Nat):Prop:= ∃o n c,v= .slice (some ⟨b,o,none⟩) n c
def mr{α:Type} [Rep α](k:Nat)(u:U)(h:H)(v:Value)(l:List α):Prop:=(v= .slice none 0 0/\l=[])\/
 ∃b c,v= .slice (some ⟨b,0,none⟩) l.length c/\l.length<=c/\c<=maxLen/\k<=b/\b<h.size/\hsz h b=c*sz α/\wH h b=(0,0)/\u b=l.length*sz α/\ ∀i x,l[i]? =some x->rep u h x (sO h b (i*sz α) (sz α))
theorem mr.nil{α:Type} [Rep α](k:Nat)(u:U)(h:H):mr k u h (.slice none 0 0) ([]:List α):= .inl ⟨rfl,rfl⟩
theorem mr.sl{α:Type} [Rep α]{k:Nat}{u:U}{h:H}{v:Value}{l:List α}(ho:mr k u h v l): ∃a c,v= .slice a l.length c/\l.length<=c/\c<=maxLen:=by
 rcases ho with⟨rfl,rfl⟩|⟨b,c,rfl,h1,h2,_⟩
 ·exact⟨none,0,rfl,aH _,az _⟩
 ·exact⟨_,c,rfl,h1,h2⟩
theorem mr.iZ{α:Type} [Rep α]{k:Nat}{u:U}{h:H}{v:Value}{l:List α}(ho:mr k u h v l):kM u h v l:=by
 rcases ho with⟨rfl,rfl⟩|⟨b,c,rfl,h1,h2,h3,h4,h5,h6,h7,h8⟩
 ·exact .nil u h
 ·refine⟨_,_,_,rfl,rfl,h1,h2,(λh=>by cases h),λ_=>⟨b,0,rfl,h4,by omega,?_,λi x hx=> ?_⟩⟩
  ·rw[h5,bY];exact eO _ h1
  ·rw[bY];exact h8 i x hx
theorem mr.ge{α:Type} [Rep α]{k:Nat}{u:U}{h:H}{v:Value}{l:List α}(ho:mr k u h v l){b:Nat}(hb:kN v b):k<=b:=by
 obtain⟨o,n,c,rfl⟩:=hb
 rcases ho with⟨h,_⟩|⟨b',c',h,_,_,h3,_⟩
 ·cases h
 ·cases h;exact h3
theorem mr.lt{α:Type} [Rep α]{k:Nat}{u:U}{h:H}{v:Value}{l:List α}(ho:mr k u h v l){b:Nat}(hb:kN v b):b<h.size:=by
 obtain⟨o,n,c,rfl⟩:=hb
 rcases ho with⟨h,_⟩|⟨b',c',h,_,_,_,h3,_⟩
 ·cases h
 ·cases h;exact h3
theorem mr.step{α:Type} [Rep α]{S:Nat->Prop}{k:Nat}{u u':U}{h h':H}{v:Value}{l:List α}(ho:mr k u h v l)(s:kG S u h u' h')(hn: ∀b,kN v b-> ¬S b):mr k u' h' v l:=by
 rcases ho with h0|⟨b,c,rfl,h1,h2,h3,h4,h5,h6,h7,h8⟩
 ·exact .inl h0
 ·obtain⟨s1,s2⟩:=s.same b h4 (hn b ⟨_,_,_,rfl⟩)
  refine .inr ⟨b,c,rfl,h1,h2,h3,bM h4 s.ge.sz,by rw[(s.ge.hs b h4).1];exact h5,by rw[(s.ge.hs b h4).2];exact h6,by rw[s2];exact h7,λi x hx=> ?_⟩
  have hi:=(aJ.1 hx).1
  have:=vZ (s:=sz α) hi
  rw[SF s.ge h4 (by omega)]
  exact Rep.mono s.ge (h8 i x hx)
theorem mr.sZ{α:Type} [Rep α]{k:Nat}{u u':U}{h h':H}{v:Value}{l:List α}(ho:mr k u h v l)(s:kG S0 u h u' h'):mr k u' h' v l:=ho.step s (λ_ _ h=>h)
theorem mr.mono{α:Type} [Rep α]{k k':Nat}{u:U}{h:H}{v:Value}{l:List α}(ho:mr k u h v l)(hk:k'<=k):mr k' u h v l:=by
 rcases ho with h0|⟨b,c,rfl,h1,h2,h3,h4⟩
 ·exact .inl h0
 ·exact .inr ⟨b,c,rfl,h1,h2,aY hk h3,h4⟩
theorem mr.made {α:Type} [Rep α] {k:Nat} (u:U) (h:H) (hk:k<=h.size) (e:TypeId) (l:List α) (cs:List Value) (hl:cs.length=l.length*sz α) (hm:l.length<=maxLen)
  (hr: ∀i x,l[i]? =some x->rep u h x ((cs.drop (i*sz α)).take (sz α))):
  mr k (ub u h.size (l.length*sz α)) (h.push (.cells cs.toArray e)) (.slice (some ⟨h.size,0,none⟩) l.length l.length) l:=by
 have st:=kG.push S0 u h cs.toArray e (l.length*sz α)
 refine .inr ⟨h.size,l.length,rfl,aH _,hm,hk,by simp,by rw[Fx rfl,hl],Fy rfl,by simp [ub],λi x hx=> ?_⟩
 have:sO (h.push (.cells cs.toArray e)) h.size (i*sz α) (sz α)=(cs.drop (i*sz α)).take (sz α):=by
  have hi:=(aJ.1 hx).1
  have h2:=vZ (s:=sz α) hi
  unfold sO
  apply bW
  intro j
  simp only[bV,dz,aR]
  by_cases hj:j<sz α
  ·rw[ay hj,bT hj,bH,LZ rfl,aO,aL (by omega)];rfl
  ·rw[ah hj,aW (by simpa using hj)];rfl
 rw[this]
 exact Rep.mono st.ge (hr i x hx)
theorem FV{a b:List Value}{o n:Nat}(h:o+n<=a.length):((a++b).drop o).take n=(a.drop o).take n:=by
 rw[iW (by omega),dH (by simp;omega)]
theorem ER{a b:List Value}{o n:Nat}(h:a.length<=o):((a++b).drop o).take n=(b.drop (o - a.length)).take n:=by
 rw[List.drop_append,dJ h,bI]
theorem BO{h:H}{b o n:Nat}{cs:List Value}(hc: ∀j,j<n->Go.Ev.hv h b (o+j)=cs.getD j undef)(hl:cs.length=n):sO h b o n=cs:=by
 unfold sO
 apply bW
 intro j
 rw[aR]
 by_cases hj:j<n
 ·rw[bT hj,bH,hc j hj,aO,aL (by omega)];rfl
 ·rw[aW (by simpa using hj),aW (by omega)];rfl
theorem yF{l:List Value}{o n j:Nat}(hj:j<n):((l.drop o).take n).getD j undef=l.getD (o+j) undef:=by
 simp [aO,hj,dz]
theorem Vj {α:Type} [Rep α] {G:mG} {e:TypeId} {bytes:Nat} {z:List Value} {k s:Nat} {u:U} {h:H} {v w:Value} {l m:List α} {K:Value->H->Prop} {KP:List PanicEntry->H->Prop}
  (ho:mr k u h v l) (hw:kM u h w m) (hs:s=sz α) (hz:z.length=sz α) (hk:k<=h.size) (hb:(l.length+m.length)*bytes<=140737488355328)
  (hK: ∀v' u' h',mr k u' h' v' (l++m)->kG (kN v) u h u' h'->(∀b,kN v' b->kN v b\/h.size<=b)->K v' h'):rT G (.app e s bytes z) [v,w] h K KP:=by
 subst hs
 obtain⟨wa,wn,wc,rfl,-⟩:=id hw
 obtain⟨hwn,hw0,news,hrn,hnl,hnok,hnr⟩:=hw.rows
 subst hwn
 obtain⟨va,vc,rfl,hvc,hvm⟩:=ho.sl
 show ahd e (sz α) bytes z va l.length vc wa m.length h K
 have hlen:(l++m).length=l.length+m.length:=by simp
 -- the rows of the new block
 have grow: ∀(olds:List Value) (cap:Nat),olds.length=l.length*sz α->(∀i x,l[i]? =some x->rep u h x ((olds.drop (i*sz α)).take (sz α)))->l.length+m.length<=cap->cap<=maxLen->
   K (.slice (some ⟨h.size,0,none⟩) (l.length+m.length) cap) (h.push (.cells (olds++news++qx z (cap - (l.length+m.length))).toArray e)):=by
  intro olds cap hol hor h1 h2
  have st:=kG.push (kN (.slice va l.length vc)) u h (olds++news++qx z (cap - (l.length+m.length))).toArray e ((l.length+m.length)*sz α)
  refine hK _ (ub u h.size ((l.length+m.length)*sz α)) _ (.inr ⟨h.size,cap,by rw[hlen],by omega,h2,hk,by simp,?_,Fy rfl,by simp [ub],λi x hx=> ?_⟩) st (λb hb=> ?_)
  ·rw[Fx rfl]
   have:(qx z (cap - (l.length+m.length))).length=(cap - (l.length+m.length))*sz α:=by simp [qx,hz]
   rw[aN,aN,hol,hnl,this,<-gK,<-gK]
   congr 1;omega
  ·have hi:=(aJ.1 hx).1
   rw[hlen]at hi
   have h3:=vZ (s:=sz α) hi
   have hcs:rep u h x (((olds++news).drop (i*sz α)).take (sz α)):=by
    by_cases hil:i<l.length
    ·rw[bi hil]at hx
     have:=vZ (s:=sz α) hil
     rw[FV (by omega)]
     exact hor i x hx
    ·rw[bX (by omega)]at hx
     have h5:i*sz α=l.length*sz α+(i - l.length)*sz α:=by rw[<-gK];congr 1;omega
     rw[ER (by omega),hol,h5,fP]
     exact hnr _ x hx
   have hll:(((olds++news).drop (i*sz α)).take (sz α)).length=sz α:=Rep.len hcs
   rw[BO (cs:=((olds++news).drop (i*sz α)).take (sz α)) (λj hj=> ?_) hll]
   ·exact Rep.mono st.ge hcs
   ·rw[LZ rfl,yF hj]
    rw[gK]at h3
    rw[aO,aO,bi (by rw[aN,hol,hnl];omega)]
  ·obtain⟨o,n,c,e⟩:=hb
   cases e;right;exact aH _
 rcases ho with⟨he,rfl⟩|⟨b,c,he,h1,h2,h3,h4,h5,h6,h7,h8⟩
 ·cases he
  refine⟨λ_=>⟨rfl,rfl⟩,hw0,aH _,hb,[],news,.inl ⟨by simp,rfl⟩,hrn,λhle=> ?_,λ_ cap hc1 hc2=> ?_⟩
  ·have:m=[]:=cO (by simp only[bg]at hle;omega)
   subst this
   exact hK _ u h (.inl ⟨rfl,rfl⟩) (.refl _ _ _) (λb hb=> .inl hb)
  ·have:=grow [] cap (by simp) (λi x hx=>by simp at hx) hc1 hc2
   simpa using this
 ·cases he
  refine⟨(λh=>by cases h),hw0,h1,hb,sO h b 0 (l.length*sz α),news,.inr ⟨by rw[h5,bY];exact eO _ h1,rfl⟩,hrn,λhle=> ?_,λ_ cap hc1 hc2=> ?_⟩
  ·have hroom:(l.length+m.length)*sz α<=vc*sz α:=eO _ hle
   rw[gK]at hroom
   simp only[bY]
   have hfit:l.length*sz α+news.length<=hsz h b:=by rw[h5,hnl];exact hroom
   refine⟨⟨hfit,by rw[h6];right;exact az _,hnok⟩,?_⟩
   have hB:kN (.slice (some ⟨b,0,none⟩) l.length vc) b:=⟨_,_,_,rfl⟩
   have s1:=kG.sets (S:=kN (.slice (some ⟨b,0,none⟩) l.length vc)) u h news hB (by rw[h7];exact aH _) hfit
   have s2:=kG.settle (S:=kN (.slice (some ⟨b,0,none⟩) l.length vc)) u (kU h b (l.length*sz α) news) (n:=(l.length+m.length)*sz α) hB (by rw[h7];exact eO _ (Nat.le_add_right _ _))
   have st:=s1.trans s2 (λ_ _ h=>h)
   refine hK _ _ _ (.inr ⟨b,vc,by rw[hlen],by rw[hlen];exact hle,h2,h3,by rw[mX];exact h4,by rw[lu];exact h5,by rw[lw];exact h6,by rw[hlen];simp [ub],λi x hx=> ?_⟩) st (λb' hb'=> ?_)
   ·have hi:=(aJ.1 hx).1
    rw[hlen]at hi
    by_cases hil:i<l.length
    ·rw[bi hil]at hx
     have:=vZ (s:=sz α) hil
     rw[SF s1.ge h4 (by omega)]
     exact Rep.mono st.ge (h8 i x hx)
    ·rw[bX (by omega)]at hx
     have h9:i*sz α=l.length*sz α+(i - l.length)*sz α:=by rw[<-gK];congr 1;omega
     have hcs:=hnr _ x hx
     have h10:=vZ (s:=sz α) (show i - l.length<m.length by omega)
     rw[BO (cs:=(news.drop ((i - l.length)*sz α)).take (sz α)) (λj hj=> ?_) (Rep.len hcs)]
     ·exact Rep.mono st.ge hcs
     ·rw[yE _ _ _ _ _ hfit,ay (by rw[hnl];omega),yF hj,h9]
      congr 1;omega
   ·obtain⟨o,n,c',e⟩:=hb'
    cases e;exact .inl hB
  ·refine grow _ cap (by simp [sO]) (λi x hx=> ?_) hc1 hc2
   have hi:=(aJ.1 hx).1
   have h3:=vZ (s:=sz α) hi
   have:((sO h b 0 (l.length*sz α)).drop (i*sz α)).take (sz α)=sO h b (i*sz α) (sz α):=by
    unfold sO
    apply bW
    intro j
    simp only[bV,dz,aR]
    by_cases hj:j<sz α
    ·rw[ay hj,bT (by omega),bT hj];simp
    ·rw[ah hj,aW (by simpa using hj)];rfl
   rw[this];exact h8 i x hx
theorem Oy {α:Type} [Rep α] {G:mG} {e e':TypeId} {bytes s:Nat} {z cs:List Value} {k:Nat} {u:U} {h:H} {v:Value} {l:List α} {x:α} {K:Value->H->Prop} {KP:List PanicEntry->H->Prop}
  (ho:mr k u h v l) (hx:rep u h x cs) (hs:s=sz α) (hz:z.length=sz α) (hk:k<=h.size) (hb:(l.length+1)*bytes<=140737488355328)
  (hK: ∀v' u' h',mr k u' h' v' (l++[x])->kG (kN v) u h u' h'->(∀b,kN v' b->kN v b\/h.size<=b)->K v' h'):rT G (.app e s bytes z) [v,.slice (some ⟨h.size,0,none⟩) 1 1] (h.push (.cells cs.toArray e')) K KP:=by
 have hl:=Rep.len hx
 have st:=kG.push S0 u h cs.toArray e' (sz α)
 have hw:kM (ub u h.size (sz α)) (h.push (.cells cs.toArray e')) (.slice (some ⟨h.size,0,none⟩) 1 1) [x]:=by
  have:=(mr.made (k:=0) u h (az _) e' [x] cs (by simp [hl]) (by simp only[bz];decide) (λi y hy=> ?_)).iZ
  ·simpa using this
  ·cases i with
   |zero=>
    simp only[dV,bQ]at hy
    subst hy
    rw[gU,eU,aK (by omega)];exact hx
   |succ i=>simp at hy
 refine Vj (ho.sZ st) hw hs hz (by simp;omega) (by simpa using hb) λv' u' h' o' s' b'=>hK v' u' h' o' ?_ (λb hb=>(b' b hb).imp id λh=>by simp at h;omega)
 exact(kG.push (kN v) u h cs.toArray e' (sz α)).trans s' (λ_ _ h=>h)
end Go.Ev
namespace Go.Ev
open Go
variable {S:Nat->Prop} {u1:U} {h1 h:H} {u:U}
theorem kG.pZ{c:Array Value}{t:TypeId}(s:kG S u h u1 h1):kG S u h (ub u1 h1.size 0) (h1.push (.cells c t)):=
 s.trans (kG.push S0 u1 h1 c t 0) (λ_ _ h=>h.elim)
theorem kG.setR{b o:Nat}{v:Value}(s:kG S u h u1 h1)(hb:h.size<=b\/S b)(hu:u1 b<=o):kG S u h u1 (lh h1 b o v):=
 s.trans (kG.set (S:=λi=>i=b) u1 h1 v rfl hu) (λi hi e=>by
  subst e
  rcases hb with hb|hb
  ·omega
  ·exact hb)
end Go.Ev
namespace Go.Ev
open Go Rep
variable {S:Nat->Prop} {u':U} {b:Nat} {h':H} {cs:List Value} {h:H} {u:U} {G:mG} {KP:List PanicEntry->H->Prop} {σ:lm} {d:Option Nat} {st:uw} {r:List St} {K:lm->H->Prop} {k:Nat} {z:List Value} {s:Nat} {v:Value} {e:TypeId} {i:Nat} {σ':lm}
def kV(u:U)(h:H)(b:Nat)(cs:List Value):Prop:=b<h.size/\hsz h b=cs.length/\wH h b=(0,0)/\u b=0/\ ∀i v,cs[i]? =some v->Go.Ev.hv h b i=v
theorem kV.step(k:kV u h b cs)(s:kG S u h u' h')(hn: ¬S b):kV u' h' b cs:=by
 obtain⟨k1,k2,k3,k4,k5⟩:=k
 obtain⟨s1,s2⟩:=s.same b k1 hn
 refine⟨bM k1 s.ge.sz,by rw[(s.ge.hs b k1).1];exact k2,by rw[(s.ge.hs b k1).2];exact k3,by rw[s2];exact k4,λi v hv=> ?_⟩
 unfold Go.Ev.hv hc;rw[s1];exact k5 i v hv
theorem kV.sZ(k:kV u h b cs)(s:kG S0 u h u' h'):kV u' h' b cs:=k.step s (λh=>h)
theorem kV.at(k:kV u h b cs)(i:Nat)(hi:i<cs.length):Go.Ev.hv h b i=cs.getD i undef:=by
 have:=k.2.2.2.2 i cs[i] (by simp [hi])
 rw[this,aO,aL hi];rfl
theorem Xp{α β:Type} [Rep α] [Rep β]{p:α×β}:bulk p=bulk p.1+bulk p.2:=rfl
theorem acz{n:Nat}:ub u b n b=n:=by simp [ub]
theorem kD {f:FuncId} {vs:List Value}
  (hc:G f vs h (λv h'=>nS st σ h h'/\mf G r K KP (qU σ d v) h') KP):sP G (.call f) d st r K KP vs σ h:=hc
theorem JR {α:Type} [Rep α] {e':TypeId} {bytes:Nat} {l:List α} {x:α}
  (ho:mr k u h v l) (hx:rep u h x cs) (hs:s=sz α) (hz:z.length=sz α) (hk:k<=h.size) (hb:(l.length+1)*bytes<=140737488355328)
  (hK: ∀a n c u' h',mr k u' h' (.slice a n c) (l++[x])->kG (kN v) u h u' h'->nS st σ (h.push (.cells cs.toArray e')) h'/\mf G r K KP (qU σ d (.slice a n c)) h'):
  sP G (.app e s bytes z) d st r K KP [v,.slice (some ⟨h.size,0,none⟩) 1 1] σ (h.push (.cells cs.toArray e')):=
 Oy ho hx hs hz hk hb λv' u' h' o' s' _=>by
  obtain⟨a,c,rfl,-,-⟩:=o'.sl
  exact hK _ _ _ _ _ o' s'
theorem qY {α:Type} [Rep α] {bytes:Nat} {w:Value} {l m:List α}
  (ho:mr k u h v l) (hw:kM u h w m) (hs:s=sz α) (hz:z.length=sz α) (hk:k<=h.size) (hb:(l.length+m.length)*bytes<=140737488355328)
  (hK: ∀a n c u' h',mr k u' h' (.slice a n c) (l++m)->kG (kN v) u h u' h'->nS st σ h h'/\mf G r K KP (qU σ d (.slice a n c)) h'):
  sP G (.app e s bytes z) d st r K KP [v,w] σ h:=
 Vj ho hw hs hz hk hb λv' u' h' o' s' _=>by
  obtain⟨a,c,rfl,-,-⟩:=o'.sl
  exact hK _ _ _ _ _ o' s'
theorem kG.rZ{u1:U}{h1:H}{o:Nat}{l:List Value}(s:kG S u h u1 h1)(hb:h.size<=b\/S b)(hu:u1 b<=o)(hl:o+l.length<=hsz h1 b):kG S u h u1 (kU h1 b o l):=
 s.trans (kG.sets (S:=λi=>i=b) u1 h1 l rfl hu hl) (λi hi e=>by
  subst e
  rcases hb with hb|hb
  ·omega
  ·exact hb)
theorem kV.sets{l:List Value}(k:kV u h b cs)(hl:l.length=cs.length):kV u (kU h b 0 l) b l:=by
 obtain⟨k1,k2,k3,k4,k5⟩:=k
 refine⟨by rw[mX];exact k1,by rw[lu,k2,hl],by rw[lw];exact k3,k4,λi v hv=> ?_⟩
 have hi:=(aJ.1 hv).1
 rw[yE _ _ _ _ _ (by omega),ay (by omega),Nat.sub_zero,aO,hv];rfl
theorem kV.set(k:kV u h b cs)(hi:i<cs.length):kV u (lh h b i v) b (cs.set i v):=by
 obtain⟨k1,k2,k3,k4,k5⟩:=k
 refine⟨by rw[qz];exact k1,by rw[De,k2,dS],by rw[Ma];exact k3,k4,λj w hw=> ?_⟩
 rw[fA]at hw
 by_cases e:i=j
 ·subst e
  rw[ay rfl,ay hi]at hw
  rw[OX (by omega),ay ⟨rfl,rfl⟩];simpa using hw
 ·rw[ah e]at hw
  rw[LJ (.inr (iB e))];exact k5 j w hw
theorem kV.pZ{c:Array Value}{t:TypeId}(k:kV u h b cs):kV (ub u h.size 0) (h.push (.cells c t)) b cs:=k.sZ (kG.push S0 u h c t 0)
def JS(σ σ':lm):List Nat->Prop
 |[]=>True
 |i::l=>σ' i=σ i/\JS σ σ' l
theorem aeV:JS σ σ' []=True:=(rfl)
theorem aeW{l:List Nat}:JS σ σ' (i::l)=(σ' i=σ i/\JS σ σ' l):=(rfl)
attribute [go_sem] aeV aeW
end Go.Ev
namespace Go.Ev
open Go Rep
/-! ### Maps from texts to integers -/
theorem Zx{a b:List UInt8}(h:str a=str b):a=b:=by simpa [str]using h
theorem kG.pushO(S:Nat->Prop)(u:U)(h:H)(x:Obj):kG S u h (ub u h.size 0) (h.push x):=by
 refine⟨⟨by simp,λb hb=> ?_,λb hb=>⟨LX hb,LY hb⟩,λb hb o _=>ZR hb⟩,λb hb _=>⟨pq (by omega),?_⟩⟩
 ·unfold ub;rw[ah (by omega)];exact aH _
 ·unfold ub;rw[ah (by omega)]
theorem vF{h:H}{b k:Nat}{x:Obj}(hb:b<h.size):(h.setIfInBounds b x)[k]? =if k=b then some x else h[k]? :=by
 by_cases e:k=b
 ·subst e;simp [hb]
 ·rw[ah e,eH (iB e)]
theorem kG.setm{S:Nat->Prop}(u:U){h:H}{b:Nat}{a a':Array MapEntry}{c c':Nat}(hb:h[b]? =some (.map a c))(hS:S b):kG S u h u (h.setIfInBounds b (.map a' c')):=by
 have hl:=(bN.1 hb).1
 refine⟨⟨by simp,λ_ _=>aH _,λi _=> ?_,λi _ j _=> ?_⟩,λi _ hn=>⟨?_,rfl⟩⟩
 ·unfold hsz wH
  rw[vF hl]
  by_cases e:i=b
  ·subst e;rw[ay rfl,hb];exact⟨rfl,rfl⟩
  ·rw[ah e];exact⟨rfl,rfl⟩
 ·unfold Go.Ev.hv hc
  rw[vF hl]
  by_cases e:i=b
  ·subst e;rw[ay rfl,hb]
  ·rw[ah e]
 ·rw[vF hl,ah (by rintro rfl;exact hn hS)]
section
variable {G:mG} {d:Option Nat} {st:uw} {r:List St} {K:lm->H->Prop} {KP:List PanicEntry->H->Prop} {σ:lm} {h:H}
end
end Go.Ev
namespace Go.Ev
open Go Rep
end Go.Ev
