/- A part of the proof. -/
import Derived.Test.YtgjkkjeakagomaaGreatDoorData
set_option linter.all false
open Go.Value renaming int→Jx
open Go.IntKind renaming i64→JT
namespace Go.Ev
open Go Rep
/-! ### Maps from keys of plain cells to integers -/
def wP{κ:Type}(ks:List Kc)(enc:κ->Value)(h:H)(b:Nat)(m:κ->Option Int)(n:Nat):Prop:= ∃a c,h[b]? =some (.map a c)/\a.size=n/\(a.toList.map (·.key)).Nodup/\(∀x∈a.toList,∃s v,x.key=enc s/\Ch ks (enc s)=true/\x.val= Jx JT v/\m s=some v)/\ ∀s v,m s=some v-> ∃x∈a.toList,x.key=enc s
section
variable {κ:Type} {ks:List Kc} {enc:κ->Value}
theorem wP.lt{h:H}{b:Nat}{m:κ->Option Int}{n:Nat}(k:wP ks enc h b m n):b<h.size:=by
 obtain⟨a,c,hb,_⟩:=k
 exact(bi.1 hb).1
theorem wP.step{S:Nat->Prop}{u u':U}{h h':H}{b:Nat}{m:κ->Option Int}{n:Nat}(k:wP ks enc h b m n)(s:jD S u h u' h')(hn: ¬S b):wP ks enc h' b m n:=by
 have hl:=k.lt
 obtain⟨a,c,hb,k'⟩:=k
 exact⟨a,c,by rw[(s.same b hl hn).1];exact hb,k'⟩
def NI(m:κ->Option Int) [DecidableEq κ](s:κ)(v:Int):κ->Option Int:=λt=>if t=s then some v else m t
variable {G:lq} {d:Option Nat} {st:su} {r:List St} {K:ku->H->Prop} {KP:List PanicEntry->H->Prop} {σ:ku} {h:H}
theorem LJ(ks:List Kc)(enc:κ->Value)(u:U)(hK: ∀u' h',jD S0 u h u' h'->wP ks enc h' h.size (λ_=>none) 0->mq st σ h h'/\kT G r K KP (nD σ d (.map (some h.size))) h'):nZ G .mkm d st r K KP [] σ h:=
 hK _ _ (jD.pushO S0 u h (.map #[] 0)) ⟨#[],0,zP,rfl,zP,λx hx=>by simp at hx,λs v hv=>by cases hv⟩
theorem wm{b n:Nat}{m:κ->Option Int}{s:κ}{ok:Bool}(inj: ∀a b,enc a=enc b->a=b)(hs:Ch ks (enc s)=true)(k:wP ks enc h b m n)(hK:mq st σ h h/\kT G r K KP (nD σ d (mr (Jx JT ((m s).getD 0)) ok (m s).isSome)) h):
  nZ G (.lookG ks (Jx JT 0) ok) d st r K KP [.map (some b),enc s] σ h:=by
 obtain⟨a,c,hb,hn,knd,k1,k2⟩:=k
 refine⟨a.toList,⟨a,c,hb,rfl⟩,hs,λx hx=> ?_,λe he hk=> ?_,λhno=> ?_⟩
 ·obtain⟨t,v,e1,e2,-⟩:=k1 x hx
  rw[e1];exact e2
 ·obtain⟨t,v,e1,-,e2,e3⟩:=k1 e he
  have:t=s:=inj _ _ (e1.symm.trans hk)
  subst this
  rw[e3]at hK
  rw[e2];exact hK
 ·cases hm:m s with
  |none=>rw[hm]at hK;exact hK
  |some v=>
   obtain⟨x,hx,hk⟩:=k2 s v hm
   exact absurd hk (hno x hx)
theorem wu{b n:Nat}{m:κ->Option Int}(k:wP ks enc h b m n)(hK:mq st σ h h/\kT G r K KP (nD σ d (Jx JT n)) h):nZ G .lenm d st r K KP [.map (some b)] σ h:=by
 obtain⟨a,c,hb,hn,knd,k1,k2⟩:=k
 refine⟨a.toList,⟨a,c,hb,rfl⟩,?_⟩
 rw[dm,hn];exact hK
theorem IQ [DecidableEq κ] {b n:Nat} {m:κ->Option Int} {s:κ} {v:Int} (u:U) (inj: ∀a b,enc a=enc b->a=b) (hs:Ch ks (enc s)=true) (k:wP ks enc h b m n)
  (hK: ∀h',jD (λi=>i=b) u h u h'->wP ks enc h' b (NI m s v) (if(m s).isSome then n else n+1)->mq st σ h h'/\kT G r K KP (nD σ d undef) h'):
  nZ G (.mputG ks) d st r K KP [.map (some b),enc s,Jx JT v] σ h:=by
 have hl:=k.lt
 obtain⟨a,c,hb,hn,knd,k1,k2⟩:=k
 refine⟨b,a,c,rfl,hb,hs,λx hx=> ?_,λi e he hk=> ?_,λhno=> ?_⟩
 ·obtain⟨t,v,e1,e2,-⟩:=k1 x hx
  rw[e1];exact e2
 ·refine hK _ (jD.setm u hb rfl) ?_
  obtain⟨t,w,e1,-,e2,e3⟩:=k1 e (by rw[<-eu]at he;exact aF he)
  have:t=s:=inj _ _ (e1.symm.trans hk)
  subst this
  rw[e3]
  have hkeys:(a.modify i λx=>{x with key:=enc t,val:= Jx JT v}).toList.map (·.key)=a.toList.map (·.key):=MapKept.modify_keys i _ (λe' he'=>by rw[he]at he';cases he';exact e1.symm)
  refine⟨_,c,by rw[vU hl,ah rfl],by simpa using hn,by rw[hkeys];exact knd,λx hx=> ?_,λt' v' hv'=> ?_⟩
  ·rw[jm]at hx
   obtain⟨j,hj,rfl⟩:=fq.1 hx
   rw[jo]
   have hj':j<a.toList.length:=by simpa using hj
   by_cases hij:i=j
   ·rw[ah hij]
    exact⟨t,v,rfl,hs,rfl,by simp [NI]⟩
   ·rw[af hij]
    obtain⟨t',w',q1,q0,q2,q3⟩:=k1 a.toList[j] (gP hj')
    by_cases ht:t'=t
    ·subst ht
     exfalso
     have hi':i<a.toList.length:=by rw[dm];exact(bi.1 he).1
     have hei:a.toList[i]=e:=by
      have:=(bi.1 he).2
      simpa using this
     exact hij ((List.getElem_inj (h₀:=by simpa using hi') (h₁:=by simpa using hj') knd).1 (by simp only[List.getElem_map];rw[hei,e1,q1]))
    ·exact⟨t',w',q1,q0,q2,by simp [NI,ht,q3]⟩
  ·unfold NI at hv'
   have hmem: ∃x∈a.toList,x.key=enc t':=by
    by_cases ht:t'=t
    ·subst ht;exact k2 t' w e3
    ·rw[af ht]at hv';exact k2 t' v' hv'
   obtain⟨x,hx,hxk⟩:=hmem
   have:enc t'∈(a.modify i λx=>{x with key:=enc t,val:= Jx JT v}).toList.map (·.key):=by rw[hkeys];exact bF.2 ⟨x,hx,hxk⟩
   obtain⟨y,hy,hyk⟩:=bF.1 this
   exact⟨y,hy,hyk⟩
 ·have hm:m s=none:=by
   cases hm:m s with
   |none=>rfl
   |some w=>obtain⟨x,hx,hk⟩:=k2 s w hm;exact absurd hk (hno x hx)
  refine hK _ (jD.setm u hb rfl) ?_
  rw[hm]
  refine⟨_,c+1,by rw[vU hl,ah rfl],by simp [hn],?_,λx hx=> ?_,λt' v' hv'=> ?_⟩
  ·rw[fo,bH]
   refine iB.2 ⟨knd,zP,λx hx y hy=> ?_⟩
   simp only[aS,bK,aY]at hy
   subst hy
   obtain⟨e,he,rfl⟩:=bF.1 hx
   exact hno e he
  ·rw[fo,aV,aY]at hx
   rcases hx with hx|rfl
   ·obtain⟨t',w',q1,q0,q2,q3⟩:=k1 x hx
    have ht:t'≠s:=λq=>hno x hx (by rw[q1,q])
    exact⟨t',w',q1,q0,q2,by simp [NI,ht,q3]⟩
   ·exact⟨s,v,rfl,hs,rfl,by simp [NI]⟩
  ·unfold NI at hv'
   rw[fo]
   by_cases ht:t'=s
   ·subst ht;exact⟨_,aV.2 (.inr (aY.2 rfl)),rfl⟩
   ·rw[af ht]at hv'
    obtain⟨x,hx,hk⟩:=k2 t' v' hv'
    exact⟨x,by simp only[aV];exact .inl hx,hk⟩
end
/-! ### Rows of bytes -/
@[instance_reducible] def repB8:Rep UInt8 where
 sz:=1
 rep _ _ s cs:=cs=[.int .u8 s.toNat]
 wf _:=True
 bulk _:=1
 szp:=Nat.one_pos
 len h:=by subst h;rfl
 ok h:=by subst h;rfl
 mono _ h:=h
 pos _:=ak _
abbrev KG(k:Nat)(u:U)(h:H)(v:Value)(l:List UInt8):Prop:= @lm UInt8 repB8 k u h v l
abbrev ahA(u:U)(h:H)(v:Value)(l:List UInt8):Prop:= @jS UInt8 repB8 u h v l
theorem szY: @Rep.sz UInt8 repB8=1:=rfl
theorem acO(l:List UInt8):(l.map sG).all tV=true:=by
 rw[bI]
 intro x hx
 obtain⟨b,-,rfl⟩:=bF.1 hx
 rfl
theorem acP {G:lq} {e:TypeId} {k:Nat} {u:U} {h:H} {v:Value} {l m:List UInt8} {K:Value->H->Prop} {KP:List PanicEntry->H->Prop}
  (ho:KG k u h v l) (hk:k<=h.size) (hb:l.length+m.length<=140737488355328)
  (hK: ∀v' u' h',KG k u' h' v' (l++m)->jD (jL v) u h u' h'->(∀b,jL v' b->jL v b\/h.size<=b)->K v' h'):qp G (.apps e) [v,str m] h K KP:=by
 have hlen:(l++m).length=l.length+m.length:=zP
 have hnl:(m.map sG).length=m.length:=zP
 -- the rows of the new block
 have grow: ∀(va:Option Addr) (vc:Nat) (olds:List Value) (cap:Nat),v= .slice va l.length vc->olds.length=l.length->(∀(i:Nat) (x:UInt8),l[i]? =some x->olds[i]? =some (Value.int .u8 x.toNat))->l.length+m.length<=cap->cap<=maxLen->
   K (.slice (some ⟨h.size,0,none⟩) (l.length+m.length) cap) (h.push (.cells (olds++m.map sG++List.replicate (cap - (l.length+m.length)) (Value.int .u8 0)).toArray e)):=by
  intro va vc olds cap hv hol hor h1 h2
  have st:=jD.push (jL v) u h (olds++m.map sG++List.replicate (cap - (l.length+m.length)) (Value.int .u8 0)).toArray e (l.length+m.length)
  refine hK _ (ub u h.size (l.length+m.length)) _ (.inr ⟨h.size,cap,by rw[hlen],zO,h2,hk,zP,?_,uS rfl,by rw[szY];simp [ub],λi x hx=> ?_⟩) st (λb hb=> ?_)
  ·rw[uo rfl,szY]
   simp only[ay,fM,hol,hnl]
   omega
  ·have hi:=(aB.1 hx).1
   rw[hlen]at hi
   show qV _ _ _ _=_
   rw[szY,qR,dz,yH rfl,aG]
   congr 1
   rw[bM (by rw[ay,hol,hnl];omega)]
   by_cases hil:i<l.length
   ·rw[bM hil]at hx
    rw[bM zO,hor i x hx];rfl
   ·rw[dA zO]at hx
    rw[dA zO,hol,bL,hx];rfl
  ·obtain⟨o,n,c,e⟩:=hb
   cases e;right;exact ak _
 rcases ho with⟨rfl,rfl⟩|⟨b,vc,rfl,h1,h2,h3,h4,h5,h6,h7,h8⟩
 ·refine⟨rfl,λ_=>⟨rfl,rfl⟩,ak _,by rw[bl_str];simpa using hb,[],.inl ⟨rfl,rfl⟩,λhle=> ?_,λ_ cap hc1 hc2=> ?_⟩
  ·rw[bl_str]at hle
   have:m=[]:=bX zO
   subst this
   exact hK _ u h (.inl ⟨rfl,rfl⟩) (.refl _ _ _) (λb hb=> .inl hb)
  ·rw[bl_str]at hc1 ⊢
   exact grow none 0 [] cap rfl rfl (λi x hx=>by simp at hx) hc1 hc2
 ·rw[szY,dz]at h5 h7
  refine⟨rfl,(λh=>by cases h),h1,by rw[bl_str];exact hb,qV h b 0 l.length,.inr ⟨by rw[h5,bJ];exact h1,rfl⟩,λhle=> ?_,λ_ cap hc1 hc2=> ?_⟩
  ·rw[bl_str]at hle ⊢
   simp only[bJ]
   have hfit:l.length+(m.map sG).length<=lS h b:=by rw[h5,hnl];exact hle
   refine⟨⟨hfit,by rw[h6];right;exact aj _,acO m⟩,?_⟩
   have hB:jL (.slice (some ⟨b,0,none⟩) l.length vc) b:=⟨_,_,_,rfl⟩
   have s1:=jD.sets (S:=jL (.slice (some ⟨b,0,none⟩) l.length vc)) u h (m.map sG) hB (by rw[h7];exact ak _) hfit
   have s2:=jD.settle (S:=jL (.slice (some ⟨b,0,none⟩) l.length vc)) u (jW h b l.length (m.map sG)) (n:=l.length+m.length) hB (by rw[h7];exact gN _ _)
   have st:=s1.trans s2 (λ_ _ h=>h)
   refine hK _ _ _ (.inr ⟨b,vc,by rw[hlen],by rw[hlen];exact hle,h2,h3,by rw[lI];exact h4,by rw[jP,szY,dz];exact h5,by rw[jQ];exact h6,by rw[hlen,szY,dz];simp [ub],λi x hx=> ?_⟩) st (λb' hb'=> ?_)
   ·have hi:=(aB.1 hx).1
    rw[hlen]at hi
    show qV _ _ _ _=_
    rw[szY,qR,dz,ut _ _ _ _ _ hfit]
    by_cases hil:i<l.length
    ·rw[bM hil]at hx
     rw[af zO]
     have:=h8 i x hx
     rw[szY,qR,dz]at this
     exact this
    ·rw[dA zO]at hx
     rw[ah (by rw[hnl];omega),aG,bL,hx];rfl
   ·obtain⟨o,n,c',e⟩:=hb'
    cases e;exact .inl hB
  ·rw[bl_str]at hc1 ⊢
   refine grow _ vc _ cap rfl (by simp [qV]) (λi x hx=> ?_) hc1 hc2
   have hi:=(aB.1 hx).1
   have:=h8 i x hx
   rw[szY,qR,dz]at this
   have e:Go.Ev.hv h b i=Value.int .u8 x.toNat:=by simpa using (show [Go.Ev.hv h b i]=[Value.int .u8 x.toNat]from this)
   unfold qV
   rw[bL,di hi,bn,bJ,e]
end Go.Ev
namespace Go.Ev
open Go Rep
variable {G:lq} {K K':Value->H->Prop} {KP:List PanicEntry->H->Prop} {T:TypeId} {b c:Nat} {e:TypeId} {h:H} {i k:Nat} {l:List UInt8} {n:Nat} {u:U} {v w:Value}
def Ad(h:H)(b:Nat):Option TypeId:=match h[b]? with|some (.cells _ t _)=>some t|_=>none
theorem IP(h:H)(b o i:Nat)(v:Value):Ad (ky h b o v) i=Ad h i:=by
 unfold Ad ky
 rw[jf]
 by_cases e:b=i
 ·subst e
  rw[ah rfl]
  cases h[b]? with
  |none=>rfl
  |some x=>cases x<;>rfl
 ·rw[af e]
theorem EC(b i:Nat): ∀(l:List Value) (h:H) (o:Nat),Ad (jW h b o l) i=Ad h i
 |[],_,_=>rfl
 |v::l,h,o=>by
  show Ad (jW (ky h b o v) b (o+1) l) i=_
  rw[EC b i l,IP]
def af4(e:TypeId)(v:Value)(h:H)(v':Value)(h':H):Prop:= ∀i,jL v' i->Ad h' i=some e\/(jL v i/\Ad h' i=Ad h i)
theorem Bo{o:Nat}{s:Option Nat}:jL (.slice (some ⟨b,o,s⟩) n c) i->i=b:=by
 rintro ⟨o',n',c',e⟩;cases e;rfl
theorem oG: ¬jL (.slice none n c) i:=by rintro ⟨o',n',c',e⟩;cases e
theorem Yc {sz bytes:Nat} {z:List Value}
  (H1:qp G (.app e sz bytes z) [v,w] h K KP) (hK: ∀v' h',K v' h'->af4 e v h v' h'->K' v' h'):qp G (.app e sz bytes z) [v,w] h K' KP:=by
 simp only[qp]at H1 ⊢
 split at H1<;>try (exact H1.elim)
 rename_i a n c b m d
 obtain⟨q1,q2,q3,q4,olds,news,q5,q6,q7,q8⟩:=H1
 refine⟨q1,q2,q3,q4,olds,news,q5,q6,λhle=> ?_,λhlt cap c1 c2=>hK _ _ (q8 hlt cap c1 c2) λi hi=> .inl ?_⟩
 ·have:=q7 hle
  split at this
  ·exact hK _ _ this λi hi=>absurd hi oG
  ·rename_i bb o
   refine⟨this.1,hK _ _ this.2 λi hi=> .inr ⟨?_,EC _ _ _ _ _⟩⟩
   cases Bo hi
   exact⟨_,_,_,rfl⟩
  ·exact this.elim
 ·cases Bo hi
  unfold Ad
  rw[gy]
theorem acN
  (H1:qp G (.apps e) [v,w] h K KP) (hK: ∀v' h',K v' h'->af4 e v h v' h'->K' v' h'):qp G (.apps e) [v,w] h K' KP:=by
 simp only[qp]at H1 ⊢
 split at H1<;>try (exact H1.elim)
 rename_i a n c
 obtain⟨q1,q2,q3,q4,olds,q5,q7,q8⟩:=H1
 refine⟨q1,q2,q3,q4,olds,q5,λhle=> ?_,λhlt cap c1 c2=>hK _ _ (q8 hlt cap c1 c2) λi hi=> .inl ?_⟩
 ·have:=q7 hle
  split at this
  ·exact hK _ _ this λi hi=>absurd hi oG
  ·rename_i bb o
   refine⟨this.1,hK _ _ this.2 λi hi=> .inr ⟨?_,EC _ _ _ _ _⟩⟩
   cases Bo hi
   exact⟨_,_,_,rfl⟩
  ·exact this.elim
 ·cases Bo hi
  unfold Ad
  rw[gy]
def Ps(T e:TypeId)(k:Nat)(u:U)(h:H)(b:Nat)(l:List UInt8):Prop:= ∃p v,h[b]? =some (.cells #[p,v] T (0,0))/\(p= .pointer none\/p= .pointer (some ⟨b,0,none⟩))/\KG k u h v l/\ ¬jL v b/\u b=0/\k<=b/\ ∀i,jL v i->Ad h i=some e
def lZ(h:H)(b:Nat):Nat->Prop:=λi=>i=b\/jL (Go.Ev.hv h b 1) i
theorem Ps.lt(k1:Ps T e k u h b l):b<h.size:=by
 obtain⟨p,v,hb,_⟩:=k1
 exact(bi.1 hb).1
theorem Ps.ge{T e:TypeId}{k:Nat}{u:U}{h:H}{b:Nat}{l:List UInt8}(k1:Ps T e k u h b l){i:Nat}(hi:lZ h b i):k<=i/\i<h.size:=by
 have hlt:=k1.lt
 obtain⟨p,v,hb,hp,ho,hn,hu,hk,ht⟩:=k1
 rcases hi with rfl|hi
 ·exact⟨hk,hlt⟩
 ·have e1:Go.Ev.hv h b 1=v:=by unfold Go.Ev.hv hc;rw[hb];rfl
  rw[e1]at hi
  refine⟨@lm.ge UInt8 repB8 _ _ _ _ _ ho _ hi,?_⟩
  have:=ht i hi
  unfold Ad at this
  cases hx:h[i]? with
  |none=>rw[hx]at this;cases this
  |some x=>exact(bi.1 hx).1
theorem Ps.step{T e:TypeId}{k:Nat}{S:Nat->Prop}{u u':U}{h h':H}{b:Nat}{l:List UInt8}(k1:Ps T e k u h b l)(s:jD S u h u' h')(hn: ∀i,lZ h b i-> ¬S i):Ps T e k u' h' b l/\Go.Ev.hv h' b 1=Go.Ev.hv h b 1:=by
 have hlt:=k1.lt
 have hge:=λi hi=>(k1.ge (i:=i) hi).2
 obtain⟨p,v,hb,hp,ho,hn1,hu,hk,ht⟩:=k1
 have e1:Go.Ev.hv h b 1=v:=by unfold Go.Ev.hv hc;rw[hb];rfl
 have hS: ∀i,jL v i-> ¬S i:=λi hi=>hn i (.inr (by rw[e1];exact hi))
 obtain⟨s1,s2⟩:=s.same b hlt (hn b (.inl rfl))
 refine⟨⟨p,v,by rw[s1];exact hb,hp,@lm.step UInt8 repB8 _ _ _ _ _ _ _ _ ho s hS,hn1,by rw[s2];exact hu,hk,λi hi=> ?_⟩,by unfold Go.Ev.hv hc;rw[s1]⟩
 have:=(s.same i (hge i (.inr (by rw[e1];exact hi))) (hS i hi)).1
 unfold Ad;rw[this];exact ht i hi
theorem Ps.sZ{T e:TypeId}{k:Nat}{u u':U}{h h':H}{b:Nat}{l:List UInt8}(k1:Ps T e k u h b l)(s:jD S0 u h u' h'):Ps T e k u' h' b l/\Go.Ev.hv h' b 1=Go.Ev.hv h b 1:=k1.step s (λ_ _ h=>h)
theorem Ps.kit{w:World}(k1:Ps T e k u w.heap b l):Lib.IsBuilder T e k b (Lib.byteCells l) w:=by
 obtain⟨p,v,hb,hp,ho,hn1,hu,hk,ht⟩:=k1
 have hat:Lib.BuilderAt T e k b p (Lib.byteCells l) w:=by
  refine⟨hk,v,hb,⟨by rw[dz],?_⟩,λhv=> ?_⟩
  ·rw[Lib.byteCells_length]
   rcases ho with⟨rfl,rfl⟩|⟨g,c,rfl,h1,h2,h3,h4,h5,h6,h7,h8⟩
   ·exact .inl ⟨rfl,rfl⟩
   ·refine .inr ⟨g,c,?_⟩
    have hty:=ht g ⟨_,_,_,rfl⟩
    unfold Ad at hty
    cases hx:w.heap[g]? with
    |none=>rw[hx]at hty;cases hty
    |some x=>
     rw[hx]at hty
     cases x with
     |cells cs t f=>
      simp only[aQ]at hty
      subst hty
      have e1:cs.size=c*1:=by unfold lS at h5;rw[hx]at h5;exact h5
      have e2:f=(0,0):=by unfold tJ at h6;rw[hx]at h6;exact h6
      subst e2
      refine⟨cs,rfl,h3,rfl,h1,h2,e1,?_⟩
      apply dV
      intro i
      by_cases hi:i<l.length
      ·have:=h8 i l[i] (by simp [hi])
       rw[szY,qR,dz]at this
       have e:Go.Ev.hv w.heap g i=Value.int .u8 l[i].toNat:=by simpa using (show [Go.Ev.hv w.heap g i]=[Value.int .u8 l[i].toNat]from this)
       unfold Go.Ev.hv hc at e
       rw[hx]at e
       have hic:i<cs.size:=zO
       simp only[dN hic,bZ]at e
       rw[dz,dE,ah hi,eu,dN hic,e]
       simp [Lib.byteCells,hi]
      ·rw[dz,dE,af hi,dh (by rw[Lib.byteCells_length];omega)]
     |_=>cases hty
  ·cases v with
   |slice a n c=>
    cases a with
    |none=>cases hv
    |some a=>
     simp only[Value.ownBlock,aQ]at hv
     obtain⟨ab,ao,asx⟩:=a
     rcases ho with⟨he,-⟩|⟨g,c',he,-⟩
     ·cases he
     ·cases he
      exact hn1 ⟨_,_,_,by rw[<-hv]⟩
   |_=>cases hv
 rcases hp with rfl|rfl
 ·exact .inl hat
 ·exact .inr hat
theorem Ps.open(k1:Ps T e k u h b l):lS h b=2/\tJ h b=(0,0)/\u b=0/\KG k u h (Go.Ev.hv h b 1) l/\ ¬jL (Go.Ev.hv h b 1) b/\ ∀i,jL (Go.Ev.hv h b 1) i->Ad h i=some e:=by
 obtain⟨p,v,hb,hp,ho,hn,hu,hk,ht⟩:=k1
 have e1:Go.Ev.hv h b 1=v:=by unfold Go.Ev.hv hc;rw[hb];rfl
 rw[e1]
 exact⟨by unfold lS;rw[hb];rfl,by unfold tJ;rw[hb],hu,ho,hn,ht⟩
theorem NH {u1 u2:U} {h1 h2:H} {l':List UInt8} {v':Value} (B:Ps T e k u h b l) (s1:jD (λi=>i=b) u h u1 h1) (B1:Ps T e k u1 h1 b l) (e1:Go.Ev.hv h1 b 1=Go.Ev.hv h b 1)
  (ho:KG k u2 h2 v' l') (s2:jD (jL (Go.Ev.hv h b 1)) u1 h1 u2 h2) (hb: ∀i,jL v' i->jL (Go.Ev.hv h b 1) i\/h1.size<=i) (ht:af4 e (Go.Ev.hv h b 1) h1 v' h2):
  jD (lZ h b) u h u2 (ky h2 b 1 v')/\Ps T e k u2 (ky h2 b 1 v') b l'/\ ∀i,lZ (ky h2 b 1 v') b i->lZ h b i\/h.size<=i:=by
 have hlt:=B1.lt
 have hltB:=B.lt
 obtain⟨_,_,hub,ho1,hn1,hty1⟩:=B1.open
 rw[e1]at ho1 hn1 hty1
 obtain⟨p,v,hbk,hp,-,-,-,hk,-⟩:=B1
 obtain⟨q1,q2⟩:=s2.same b hlt hn1
 have hbk2:h2[b]? =some (.cells #[p,v] T (0,0)):=by rw[q1];exact hbk
 have hnb: ¬jL v' b:=λhB=>by
  rcases hb b hB with h|h
  ·exact hn1 h
  ·omega
 have hget: ∀i,(ky h2 b 1 v')[i]? =if i=b then some (.cells #[p,v'] T (0,0))else h2[i]? :=λi=>by
  rw[mW]
  by_cases e:i=b
  ·subst e;rw[ah rfl,ah rfl,hbk2];rfl
  ·rw[af e,af e]
 have e3:Go.Ev.hv (ky h2 b 1 v') b 1=v':=by unfold Go.Ev.hv hc;rw[hget,ah rfl];rfl
 have sw:jD (λi=>i=b) u2 h2 u2 (ky h2 b 1 v'):=jD.set u2 h2 v' rfl (by rw[q2,hub];exact aj _)
 have s12:jD (lZ h b) u h u2 h2:=(s1.mono (S':=lZ h b) (λi _ hi=> .inl hi)).trans s2 (λi _ hi=> .inr hi)
 refine⟨s12.trans sw (λi _ hi=> .inl hi),⟨p,v',by rw[hget,ah rfl],hp,?_,hnb,by rw[q2];exact hub,hk,λi hi=> ?_⟩,λi hi=> ?_⟩
 ·exact @lm.step UInt8 repB8 _ _ _ _ _ _ _ _ ho sw (λi hi e=>hnb (by have e:i=b:=e;rw[<-e];exact hi))
 ·rw[IP]
  rcases ht i hi with h|⟨h3,h4⟩
  ·exact h
  ·rw[h4];exact hty1 i h3
 ·rcases hi with rfl|hi
  ·exact .inl (.inl rfl)
  ·rw[e3]at hi
   rcases hb i hi with h|h
   ·exact .inl (.inr h)
   ·exact .inr (aT s1.ge.sz h)
end Go.Ev
