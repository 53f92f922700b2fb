/- A part of the proof. -/
import Derived.Test.YtbnkepecoeohjaaGreatDoorEvC
set_option linter.all false
namespace Go.Ev
open Go Rep
/-! ### Maps from keys of plain cells to integers -/
def Fv{κ:Type}(ks:List Kc)(enc:κ->Value)(h:H)(b:Nat)(m:κ->Option Int)(n:Nat):Prop:= ∃a c,h[b]? =some (.map a c)/\a.size=n/\(a.toList.map (·.key)).Nodup/\(∀x∈a.toList,∃s v,x.key=enc s/\ES ks (enc s)=true/\x.val= .int .i64 v/\m s=some v)/\ ∀s v,m s=some v-> ∃x∈a.toList,x.key=enc s
section
variable {κ:Type} {ks:List Kc} {enc:κ->Value}
theorem Fv.lt{h:H}{b:Nat}{m:κ->Option Int}{n:Nat}(k:Fv ks enc h b m n):b<h.size:=by
 obtain⟨a,c,hb,_⟩:=k
 exact(bN.1 hb).1
theorem Fv.step{S:Nat->Prop}{u u':U}{h h':H}{b:Nat}{m:κ->Option Int}{n:Nat}(k:Fv ks enc h b m n)(s:kG S u h u' h')(hn: ¬S b):Fv ks enc h' b m n:=by
 have hl:=k.lt
 obtain⟨a,c,hb,k'⟩:=k
 exact⟨a,c,by rw[(s.same b hl hn).1];exact hb,k'⟩
def Ot(m:κ->Option Int) [DecidableEq κ](s:κ)(v:Int):κ->Option Int:=λt=>if t=s then some v else m t
variable {G:mG} {d:Option Nat} {st:uw} {r:List St} {K:lm->H->Prop} {KP:List PanicEntry->H->Prop} {σ:lm} {h:H}
theorem LD(ks:List Kc)(enc:κ->Value)(u:U)(hK: ∀u' h',kG S0 u h u' h'->Fv ks enc h' h.size (λ_=>none) 0->nS st σ h h'/\mf G r K KP (qU σ d (.map (some h.size))) h'):sP G .mkm d st r K KP [] σ h:=
 hK _ _ (kG.pushO S0 u h (.map #[] 0)) ⟨#[],0,by simp,rfl,by simp,λx hx=>by simp at hx,λs v hv=>by cases hv⟩
theorem Jj{b n:Nat}{m:κ->Option Int}{s:κ}{ok:Bool}(inj: ∀a b,enc a=enc b->a=b)(hs:ES ks (enc s)=true)(k:Fv ks enc h b m n)(hK:nS st σ h h/\mf G r K KP (qU σ d (qD (.int .i64 ((m s).getD 0)) ok (m s).isSome)) h):
  sP G (.lookG ks (.int .i64 0) ok) d st r K KP [.map (some b),enc s] σ h:=by
 obtain⟨a,c,hb,hn,knd,k1,k2⟩:=k
 refine⟨a.toList,⟨a,c,hb,rfl⟩,hs,λx hx=> ?_,λe he hk=> ?_,λhno=> ?_⟩
 ·obtain⟨t,v,e1,e2,-⟩:=k1 x hx
  rw[e1];exact e2
 ·obtain⟨t,v,e1,-,e2,e3⟩:=k1 e he
  have:t=s:=inj _ _ (e1.symm.trans hk)
  subst this
  rw[e3]at hK
  rw[e2];exact hK
 ·cases hm:m s with
  |none=>rw[hm]at hK;exact hK
  |some v=>
   obtain⟨x,hx,hk⟩:=k2 s v hm
   exact absurd hk (hno x hx)
theorem Jk [DecidableEq κ] {b n:Nat} {m:κ->Option Int} {s:κ} {v:Int} (u:U) (inj: ∀a b,enc a=enc b->a=b) (hs:ES ks (enc s)=true) (k:Fv ks enc h b m n)
  (hK: ∀h',kG (λi=>i=b) u h u h'->Fv ks enc h' b (Ot m s v) (if(m s).isSome then n else n+1)->nS st σ h h'/\mf G r K KP (qU σ d undef) h'):
  sP G (.mputG ks) d st r K KP [.map (some b),enc s,.int .i64 v] σ h:=by
 have hl:=k.lt
 obtain⟨a,c,hb,hn,knd,k1,k2⟩:=k
 refine⟨b,a,c,rfl,hb,hs,λx hx=> ?_,λi e he hk=> ?_,λhno=> ?_⟩
 ·obtain⟨t,v,e1,e2,-⟩:=k1 x hx
  rw[e1];exact e2
 ·refine hK _ (kG.setm u hb rfl) ?_
  obtain⟨t,w,e1,-,e2,e3⟩:=k1 e (by rw[<-dX]at he;exact aI he)
  have:t=s:=inj _ _ (e1.symm.trans hk)
  subst this
  rw[e3]
  have hkeys:(a.modify i λx=>{x with key:=enc t,val:= .int .i64 v}).toList.map (·.key)=a.toList.map (·.key):=MapKept.modify_keys i _ (λe' he'=>by rw[he]at he';cases he';exact e1.symm)
  refine⟨_,c,by rw[vF hl,ay rfl],by simpa using hn,by rw[hkeys];exact knd,λx hx=> ?_,λt' v' hv'=> ?_⟩
  ·rw[kw]at hx
   obtain⟨j,hj,rfl⟩:=gz.1 hx
   rw[ky]
   have hj':j<a.toList.length:=by simpa using hj
   by_cases hij:i=j
   ·rw[ay hij]
    exact⟨t,v,rfl,hs,rfl,by simp [Ot]⟩
   ·rw[ah hij]
    obtain⟨t',w',q1,q0,q2,q3⟩:=k1 a.toList[j] (List.getElem_mem hj')
    by_cases ht:t'=t
    ·subst ht
     exfalso
     have hi':i<a.toList.length:=by rw[dM];exact(bN.1 he).1
     have hei:a.toList[i]=e:=by
      have:=(bN.1 he).2
      simpa using this
     exact hij ((List.getElem_inj (h₀:=by simpa using hi') (h₁:=by simpa using hj') knd).1 (by simp only[List.getElem_map];rw[hei,e1,q1]))
    ·exact⟨t',w',q1,q0,q2,by simp [Ot,ht,q3]⟩
  ·unfold Ot at hv'
   have hmem: ∃x∈a.toList,x.key=enc t':=by
    by_cases ht:t'=t
    ·subst ht;exact k2 t' w e3
    ·rw[ah ht]at hv';exact k2 t' v' hv'
   obtain⟨x,hx,hxk⟩:=hmem
   have:enc t'∈(a.modify i λx=>{x with key:=enc t,val:= .int .i64 v}).toList.map (·.key):=by rw[hkeys];exact bq.2 ⟨x,hx,hxk⟩
   obtain⟨y,hy,hyk⟩:=bq.1 this
   exact⟨y,hy,hyk⟩
 ·have hm:m s=none:=by
   cases hm:m s with
   |none=>rfl
   |some w=>obtain⟨x,hx,hk⟩:=k2 s w hm;exact absurd hk (hno x hx)
  refine hK _ (kG.setm u hb rfl) ?_
  rw[hm]
  refine⟨_,c+1,by rw[vF hl,ay rfl],by simp [hn],?_,λx hx=> ?_,λt' v' hv'=> ?_⟩
  ·rw[fC,eD]
   refine fB.2 ⟨knd,by simp,λx hx y hy=> ?_⟩
   simp only[bF,cu,bJ]at hy
   subst hy
   obtain⟨e,he,rfl⟩:=bq.1 hx
   exact hno e he
  ·rw[fC,bG,bJ]at hx
   rcases hx with hx|rfl
   ·obtain⟨t',w',q1,q0,q2,q3⟩:=k1 x hx
    have ht:t'≠s:=λq=>hno x hx (by rw[q1,q])
    exact⟨t',w',q1,q0,q2,by simp [Ot,ht,q3]⟩
   ·exact⟨s,v,rfl,hs,rfl,by simp [Ot]⟩
  ·unfold Ot at hv'
   rw[fC]
   by_cases ht:t'=s
   ·subst ht;exact⟨_,bG.2 (.inr (bJ.2 rfl)),rfl⟩
   ·rw[ah ht]at hv'
    obtain⟨x,hx,hk⟩:=k2 t' v' hv'
    exact⟨x,by simp only[bG];exact .inl hx,hk⟩
end
/-! ### Rows of bytes -/
@[instance_reducible] def repB8:Rep UInt8 where
 sz:=1
 rep _ _ s cs:=cs=[.int .u8 s.toNat]
 wf _:=True
 bulk _:=1
 szp:=Nat.one_pos
 len h:=by subst h;rfl
 ok h:=by subst h;rfl
 mono _ h:=h
 pos _:=aH _
abbrev aia(k:Nat)(u:U)(h:H)(v:Value)(l:List UInt8):Prop:= @mr UInt8 repB8 k u h v l
end Go.Ev
namespace Go.Ev
open Go Rep
/-! ### Maps from integers to integers -/
theorem Sq{a b:Int}(h:Value.int .i64 a= .int .i64 b):a=b:=by cases h;rfl
def CY(h:H)(b:Nat)(m:Int->Option Int)(n:Nat):Prop:= ∃a c,h[b]? =some (.map a c)/\a.size=n/\(a.toList.map (·.key)).Nodup/\(∀x∈a.toList,∃s v,x.key= .int .i64 s/\x.val= .int .i64 v/\m s=some v)/\ ∀s v,m s=some v-> ∃x∈a.toList,x.key= .int .i64 s
theorem CY.lt{h:H}{b:Nat}{m:Int->Option Int}{n:Nat}(k:CY h b m n):b<h.size:=by
 obtain⟨a,c,hb,_⟩:=k
 exact(bN.1 hb).1
theorem CY.step{S:Nat->Prop}{u u':U}{h h':H}{b:Nat}{m:Int->Option Int}{n:Nat}(k:CY h b m n)(s:kG S u h u' h')(hn: ¬S b):CY h' b m n:=by
 have hl:=k.lt
 obtain⟨a,c,hb,k'⟩:=k
 exact⟨a,c,by rw[(s.same b hl hn).1];exact hb,k'⟩
def Oq(m:Int->Option Int)(s:Int)(v:Int):Int->Option Int:=λt=>if t=s then some v else m t
theorem CY.keys{h:H}{b:Nat}{m:Int->Option Int}{n:Nat}{a:Array MapEntry}{c:Nat}(k1: ∀x∈a.toList,∃s v,x.key= .int .i64 s/\x.val= .int .i64 v/\m s=some v): ∀x∈a.toList,MapKept.IsKey (.int .i64) x.key:=λx hx=>by
 obtain⟨s,v,e,_⟩:=k1 x hx
 rw[e];rfl
section
variable {G:mG} {d:Option Nat} {st:uw} {r:List St} {K:lm->H->Prop} {KP:List PanicEntry->H->Prop} {σ:lm} {h:H}
theorem Zl(u:U)(hK: ∀u' h',kG S0 u h u' h'->CY h' h.size (λ_=>none) 0->nS st σ h h'/\mf G r K KP (qU σ d (.map (some h.size))) h'):sP G .mkm d st r K KP [] σ h:=
 hK _ _ (kG.pushO S0 u h (.map #[] 0)) ⟨#[],0,by simp,rfl,by simp,λx hx=>by simp at hx,λs v hv=>by cases hv⟩
theorem Vg{b n:Nat}{m:Int->Option Int}{s:Int}{ok:Bool}(k:CY h b m n)(hK:nS st σ h h/\mf G r K KP (qU σ d (qD (.int .i64 ((m s).getD 0)) ok (m s).isSome)) h):
  sP G (.look (.int .i64) (.int .i64 0) ok) d st r K KP [.map (some b),.int .i64 s] σ h:=by
 obtain⟨a,c,hb,hn,knd,k1,k2⟩:=k
 refine⟨a.toList,⟨a,c,hb,rfl⟩,rfl,CY.keys (h:=h) (b:=b) (n:=n) (c:=c) k1,λe he hk=> ?_,λhno=> ?_⟩
 ·obtain⟨t,v,e1,e2,e3⟩:=k1 e he
  have:t=s:=Sq (e1.symm.trans hk)
  subst this
  rw[e3]at hK
  rw[e2];exact hK
 ·cases hm:m s with
  |none=>rw[hm]at hK;exact hK
  |some v=>
   obtain⟨x,hx,hk⟩:=k2 s v hm
   exact absurd hk (hno x hx)
theorem Vh {b n:Nat} {m:Int->Option Int} {s:Int} {v:Int} (u:U) (k:CY h b m n)
  (hK: ∀h',kG (λi=>i=b) u h u h'->CY h' b (Oq m s v) (if(m s).isSome then n else n+1)->nS st σ h h'/\mf G r K KP (qU σ d undef) h'):
  sP G (.mput (.int .i64)) d st r K KP [.map (some b),.int .i64 s,.int .i64 v] σ h:=by
 have hl:=k.lt
 obtain⟨a,c,hb,hn,knd,k1,k2⟩:=k
 refine⟨b,a,c,rfl,hb,rfl,CY.keys (h:=h) (b:=b) (n:=n) (c:=c) k1,λi e he hk=> ?_,λhno=> ?_⟩
 ·refine hK _ (kG.setm u hb rfl) ?_
  obtain⟨t,w,e1,e2,e3⟩:=k1 e (by rw[<-dX]at he;exact aI he)
  have:t=s:=Sq (e1.symm.trans hk)
  subst this
  rw[e3]
  have hkeys:(a.modify i λx=>{x with key:= .int .i64 t,val:= .int .i64 v}).toList.map (·.key)=a.toList.map (·.key):=MapKept.modify_keys i _ (λe' he'=>by rw[he]at he';cases he';exact e1.symm)
  refine⟨_,c,by rw[vF hl,ay rfl],by simpa using hn,by rw[hkeys];exact knd,λx hx=> ?_,λt' v' hv'=> ?_⟩
  ·rw[kw]at hx
   obtain⟨j,hj,rfl⟩:=gz.1 hx
   rw[ky]
   have hj':j<a.toList.length:=by simpa using hj
   by_cases hij:i=j
   ·rw[ay hij]
    exact⟨t,v,rfl,rfl,by simp [Oq]⟩
   ·rw[ah hij]
    obtain⟨t',w',q1,q2,q3⟩:=k1 a.toList[j] (List.getElem_mem hj')
    by_cases ht:t'=t
    ·subst ht
     exfalso
     have hi':i<a.toList.length:=by rw[dM];exact(bN.1 he).1
     have hei:a.toList[i]=e:=by
      have:=(bN.1 he).2
      simpa using this
     exact hij ((List.getElem_inj (h₀:=by simpa using hi') (h₁:=by simpa using hj') knd).1 (by simp only[List.getElem_map];rw[hei,e1,q1]))
    ·exact⟨t',w',q1,q2,by simp [Oq,ht,q3]⟩
  ·unfold Oq at hv'
   have hmem: ∃x∈a.toList,x.key= .int .i64 t':=by
    by_cases ht:t'=t
    ·subst ht;exact k2 t' w e3
    ·rw[ah ht]at hv';exact k2 t' v' hv'
   obtain⟨x,hx,hxk⟩:=hmem
   have: .int .i64 t'∈(a.modify i λx=>{x with key:= .int .i64 t,val:= .int .i64 v}).toList.map (·.key):=by rw[hkeys];exact bq.2 ⟨x,hx,hxk⟩
   obtain⟨y,hy,hyk⟩:=bq.1 this
   exact⟨y,hy,hyk⟩
 ·have hm:m s=none:=by
   cases hm:m s with
   |none=>rfl
   |some w=>obtain⟨x,hx,hk⟩:=k2 s w hm;exact absurd hk (hno x hx)
  refine hK _ (kG.setm u hb rfl) ?_
  rw[hm]
  refine⟨_,c+1,by rw[vF hl,ay rfl],by simp [hn],?_,λx hx=> ?_,λt' v' hv'=> ?_⟩
  ·rw[fC,eD]
   refine fB.2 ⟨knd,by simp,λx hx y hy=> ?_⟩
   simp only[bF,cu,bJ]at hy
   subst hy
   obtain⟨e,he,rfl⟩:=bq.1 hx
   exact hno e he
  ·rw[fC,bG,bJ]at hx
   rcases hx with hx|rfl
   ·obtain⟨t',w',q1,q2,q3⟩:=k1 x hx
    have ht:t'≠s:=λq=>hno x hx (by rw[q1,q])
    exact⟨t',w',q1,q2,by simp [Oq,ht,q3]⟩
   ·exact⟨s,v,rfl,rfl,by simp [Oq]⟩
  ·unfold Oq at hv'
   rw[fC]
   by_cases ht:t'=s
   ·subst ht;exact⟨_,bG.2 (.inr (bJ.2 rfl)),rfl⟩
   ·rw[ah ht]at hv'
    obtain⟨x,hx,hk⟩:=k2 t' v' hv'
    exact⟨x,by simp only[bG];exact .inl hx,hk⟩
end
theorem Sr {G:mG} {d:Option Nat} {st:uw} {r:List St} {K:lm->H->Prop} {KP:List PanicEntry->H->Prop} {σ:lm} {h:H} {sz b o dn dc sn sc:Nat} {sa:Option Addr} {news:List Value} (hr:Au h sa (min sn dn*sz) news) (hw:Mc h b o news)
  (hK:nS st σ h (kU h b o news)/\mf G r K KP (qU σ d (.int .i64 (min sn dn:Nat))) (kU h b o news)):sP G (.cpy sz) d st r K KP [.slice (some ⟨b,o,none⟩) dn dc,.slice sa sn sc] σ h:=⟨news,hr,hw,hK⟩
end Go.Ev
