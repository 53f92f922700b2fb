/- A part of the proof. -/
import Derived.Test.YtbnkepecoeohjaaGreatDoorLexV
import Derived.Test.YtbnkepecoeohjaaGreatDoorShelf
import Derived.KernelRfl
import Derived.Test.YtbnkepecoeohjaaGreatDoorGap
set_option linter.all false
set_option maxRecDepth 100000
set_option maxHeartbeats 4000000
namespace Edict
def Jp(a:Nat)(l:List UInt8):Nat:=l.foldl (λv c=>v*10+(c.toNat - 48)) a
theorem Mv: ∀(l:List UInt8) (a:Nat),a<=Jp a l
 |[],a=>aH a
 |c::r,a=>by
  have:=Mv r (a*10+(c.toNat - 48))
  simp only[Jp,eP]at this ⊢
  omega
theorem GA: ∀(l:List UInt8) (a:Nat),(∀c∈l,qB c.toNat=true)->a<=18446744073709551615->Go.Lib.parseUintM 18446744073709551615 a l=if Jp a l<=18446744073709551615 then .ok (Jp a l)else .range
 |[],a,_,ha=>by simp [Go.Lib.parseUintM,Jp,ha]
 |c::r,a,hd,ha=>by
  have hc:=hd c (by simp)
  have hc':48<=c.toNat/\c.toNat<=57:=by unfold qB at hc;simpa using hc
  have hg:=Mv r (a*10+(c.toNat - 48))
  have he:Jp a (c::r)=Jp (a*10+(c.toNat - 48)) r:=rfl
  unfold Go.Lib.parseUintM
  rw[ay hc',he]
  by_cases h1:1844674407370955162<=a
  ·rw[ay h1,ah (by omega)]
  ·rw[ah h1]
   by_cases h2:18446744073709551615<a*10+(c.toNat - 48)
   ·rw[ay h2,ah (by omega)]
   ·rw[ah h2]
    exact GA r _ (λx hx=>hd x (by simp [hx])) (by omega)
def rX(neg:Bool)(d:List UInt8):Option Int:=if neg then(if qE d<=9223372036854775808 then some (-(qE d:Nat))else none)else if qE d<=9223372036854775807 then some (qE d:Nat)else none
def uO(neg:Bool):List UInt8:=if neg then [45]else []
theorem XO{neg:Bool}{d:List UInt8}(h0:d≠[])(hd: ∀c∈d,qB c.toNat=true):Go.Lib.parseIntB 64 (uO neg++d)=match rX neg d with|some v=> .ok v|none=> .range:=by
 have e1:(2:Nat) ^ (64 - 1)=9223372036854775808:=by decide
 have e2:(2:Nat) ^ 64 - 1=18446744073709551615:=by decide
 have hp:=GA d 0 hd (by decide)
 have hdv:Jp 0 d=qE d:=rfl
 rw[hdv]at hp
 have hu:Go.Lib.parseUintB 64 d=if qE d<=18446744073709551615 then .ok (qE d)else .range:=by unfold Go.Lib.parseUintB;rw[ah h0,e2,hp]
 cases neg with
 |true=>
  simp only[uO,dx,bO,bI,rX]
  unfold Go.Lib.parseIntB
  simp only[show(45:UInt8).toNat=45 from rfl,or_true,dx,hu,e1]
  by_cases q1:qE d<=18446744073709551615
  ·rw[ay q1]
   by_cases q2:qE d<=9223372036854775808
   ·rw[ay q2];simp;omega
   ·rw[ah q2];simp;omega
  ·rw[ah q1,ah (by omega)]
 |false=>
  cases d with
  |nil=>exact absurd rfl h0
  |cons c r=>
   have hc:=hd c (by simp)
   have hc':48<=c.toNat/\c.toNat<=57:=by unfold qB at hc;simpa using hc
   simp only[uO,aV,bZ,bI,rX]
   unfold Go.Lib.parseIntB
   simp only[show¬c.toNat=43 by omega,show¬c.toNat=45 by omega,or_self,bZ,hu,e1]
   by_cases q1:qE (c::r)<=18446744073709551615
   ·rw[ay q1]
    by_cases q2:qE (c::r)<=9223372036854775807
    ·rw[ay q2];simp;omega
    ·rw[ah q2];simp;omega
   ·rw[ah q1,ah (by omega)]
end Edict
namespace Go.Ev
open Go
theorem kG.ofSame{u:U}{h h':H}(hs:h.size<=h'.size)(hb: ∀b,b<h.size->h'[b]? =h[b]?):kG S0 u h u h':=by
 refine⟨⟨hs,λ_ _=>aH _,λb hl=> ?_,λb hl o _=> ?_⟩,λb hl _=>⟨hb b hl,rfl⟩⟩
 ·unfold hsz wH;rw[hb b hl];exact⟨rfl,rfl⟩
 ·unfold Go.Ev.hv hc;rw[hb b hl]
end Go.Ev
namespace Go.Proofs.Z
open Go Go.Ev Edict
def Ty(u:U)(h:H):Prop:=4<h.size/\1<=hsz h 4/\1<=u 4/\(hv h 4 0= .nilIface\/ ∃t p,hv h 4 0= .iface t p)
theorem Ty.mono{u u':U}{h h':H}(k:Ty u h)(g:Ge u h u' h'):Ty u' h':=by
 obtain⟨k1,k2,k3,k4⟩:=k
 refine⟨bM k1 g.sz,by rw[(g.hs _ k1).1];exact k2,aY k3 (g.up _ k1),?_⟩
 rw[g.cl _ k1 0 (by omega)];exact k4
def aaz(vs:List Value)(h:H)(K:Value->H->Prop):Prop:= ∃(u:U) (neg:Bool) (d:List UInt8),vs=[str (uO neg++d),.int .i64 10,.int .i64 64]/\d.length<=65536/\d≠[]/\(∀c∈d,qB c.toNat=true)/\Ty u h/\
 ∀u' h',kG S0 u h u' h'->(match rX neg d with|some v=>K (.tuple #[.int .i64 v,.nilIface]) h'|none=> ∀n t p,K (.tuple #[.int .i64 n,.iface t p]) h')
theorem Po{vs:List Value}{h:H}{K:Value->H->Prop}{KP:List PanicEntry->H->Prop}(hC:aaz vs h K):ma Tryz.prog 137 vs h K KP:=by
 obtain⟨u,neg,d,rfl,hl,h0,hd,⟨g1,g2,g3,g4⟩,hK⟩:=hC
 have hp:=XO (neg:=neg) h0 hd
 have hsl:(uO neg).length<=1:=by cases neg<;>simp [uO]
 have hsz:(⟨(uO neg++d).toArray⟩:ByteArray).size<=65537:=by
  show(uO neg++d).toArray.size<=65537
  simp only[gp,aN];omega
 refine .inl ⟨by kernel_rfl,λw hw=> ?_⟩
 subst hw
 cases hv:rX neg d with
 |some v=>
  rw[hv]at hp hK
  refine(Tryz.strconv_ParseInt_10_at64_ok ⟨(uO neg++d).toArray⟩ (by omega) v hp w).mono ?_
  rintro e w' ⟨rfl,rfl|⟨t,rfl⟩⟩
  ·exact⟨.refl _,hK u _ (.refl _ _ _)⟩
  ·exact⟨⟨rfl,rfl,rfl⟩,hK u _ (kG.ofSame (by rw[Lib.bytesWorld_size];omega) (λb hb=>Lib.bytesWorld_at_old _ _ _ _ hb))⟩
 |none=>
  rw[hv]at hp hK
  have hcell:w.cell? ⟨4,0,none⟩=some (Go.Ev.hv w.heap 4 0):=by rw[qf];exact vQ g2
  refine(Tryz.strconv_ParseInt_10_at64_range ⟨(uO neg++d).toArray⟩ (by omega) hp _ w hcell g4).mono ?_
  rintro e w' ⟨N,rfl,-,-,hb⟩
  exact⟨⟨hb.os,hb.tape,hb.output⟩,hK u _ (kG.ofSame hb.size hb.block) _ _ _⟩
end Go.Proofs.Z
namespace Edict
variable {s:List UInt8} {b k:Nat}
theorem wQ{a:Nat}(hb:b<=s.length):wR s a b=true↔ ∀i,a<=i->i<b->qB (kS s i)=true:=by
 have hg: ∀i,i<b - a->(sub s a b)[i]? =s[a+i]? :=λi hi=>by
  unfold sub
  rw[dz,bV,ay (by omega)]
 have hl:(sub s a b).length=b - a:=tJ hb
 have hbat: ∀i,i<s.length-> ∀c,s[i]? =some c->kS s i=c.toNat:=λi hi c hc=>by unfold kS;rw[aO,hc];rfl
 unfold wR
 rw[bU]
 constructor
 ·intro h i h1 h2
  have hi:i<s.length:=by omega
  have hm:s[i]? =some s[i]:=by simp [hi]
  have hx:=hg (i - a) (by omega)
  rw[show a+(i - a)=i by omega,hm]at hx
  rw[hbat i hi _ hm]
  exact h _ (aI hx)
 ·intro h c hc
  obtain⟨i,hi⟩:=List.mem_iff_getElem?.1 hc
  have hlt:=(aJ.1 hi).1
  rw[hg i (by omega)]at hi
  have:=h (a+i) (by omega) (by omega)
  rwa [hbat (a+i) (by omega) c hi]at this
def Dk(s:List UInt8)(k:Nat):Bool:=decide (kS s k=45)
def mh(s:List UInt8)(k:Nat):Nat:=if kS s k=45 then k+1 else k
theorem Tx(hd:wR s (mh s k) (nG s (mh s k))=true):uk s k (mh s k)=match rX (Dk s k) (sub s (mh s k) (nG s (mh s k)))with|some v=> .ok (3,[],v,0,k,nG s (mh s k))|none=> .bad 13 k:=by
 unfold uk
 rw[ay hd]
 unfold rX Dk
 by_cases h:kS s k=45
 ·have hf:mh s k=k+1:=by unfold mh;rw[ay h]
  rw[hf,ay (by omega),decide_eq_true h,ay rfl]
  split<;>rfl
 ·have hf:mh s k=k:=by unfold mh;rw[ah h]
  rw[hf,ah (by omega),decide_eq_false h]
  simp only[aV,bZ]
  split<;>rfl
theorem VA(hd:wR s b (nG s b)=false):uk s k b= .bad 13 k:=by unfold uk;rw[hd];rfl
theorem Ms{e:Nat}(h:mh s k<=e)(he:e<=s.length)(hk:k<s.length):(s.take e).drop k=uO (Dk s k)++sub s (mh s k) e:=by
 unfold uO Dk sub mh
 by_cases hm:kS s k=45
 ·have hf:mh s k=k+1:=by unfold mh;rw[ay hm]
  rw[hf]at h
  rw[decide_eq_true hm,ay rfl,ay hm]
  have hm':s[k]=45:=by
   unfold kS at hm
   rw[aO,aL hk]at hm
   exact gT.1 hm
  rw[bK (by simp;omega)]
  simp [hm']
 ·rw[decide_eq_false hm,ah hm];simp
end Edict
namespace Go.Proofs.Z
open Go Go.Ev Edict
def Pn:mG:=λf vs h K _=>(f=126/\Cc qB vs h K)\/(f=136/\aaE vs h K)\/(f=125/\Cf vs h K)\/(f=137/\aaz vs h K)
theorem Gz:nz Tryz.prog Pn:=mK uP (mK Pt (mK xM (qd Po)))
theorem Mt{vs:List Value}{h:H}{K:Value->H->Prop}{KP:List PanicEntry->H->Prop}(hC:Ey Ty (λs k=>uk s k (mh s k)) (λs k=>k<s.length/\qB (kS s (mh s k))=true) vs h K):ma Tryz.prog 128 vs h K KP:=by
 obtain⟨u,B,s,k,rfl,hB,hk,hl,⟨hlt,hdg⟩,hE,hK⟩:=hC
 have hK: ∀u' h',kG (λi=>i=B) u h u' h'->(∀t,uk s k (mh s k)= .ok t->Mw u' h' B s t.2.2.2.2.2.toNat)->K (Dl (uk s k (mh s k))) h':=hK
 have hB1:=hB.1
 have hble:mh s k<s.length:=eY λh=>by rw[si h]at hdg;simp [qB]at hdg
 have hr1:=vK hble (by unfold uJ;rw[hdg];rfl)
 have hr2:=uQ s _ (gZ hble)
 refine kP 288231476739179517 [((some (.c1 (.ldn 6) (.t 2))),(.o1 (.ldn 6) (.t 2))),((some (.c1 (.ldn 3) (.t 3))),(.o1 (.ldn 3) (.t 3)))] Gz Tryz.func128 (by kernel_rfl) (by conv=>lhs;cbv;try simp only[mF]) ?_
 have sp:kG (λi=>i=B) u h _ _:=kG.qZ (λi=>i=B) u h lM.toArray 177
 have T0:kV (ub u h.size 0) (h.push (.cells lM.toArray 177)) h.size lM:=kV.new lM _
 have sp1:=sp.pZ (c:=(kT 0 0).toArray) (t:=44)
 have T1:=T0.pZ (c:=(kT 0 0).toArray) (t:=44)
 have F1:=kV.new (u:=ub u h.size 0) (h:=h.push (.cells lM.toArray 177)) (kT 0 0) 44
 have b1:=(hB.pZ (c:=lM.toArray) (t:=177)).pZ (c:=(kT 0 0).toArray) (t:=44)
 have E1:=hE.mono sp1.ge
 simp only[yj]at sp1 T1 F1 b1 E1
 by_cases hm:kS s k=45
 ·have hf:mh s k=k+1:=by unfold mh;rw[ay hm]
  have hneg:Dk s k=true:=by unfold Dk;exact decide_eq_true hm
  simp(disch:=first|omega|simp only[zz];try omega;done) only[↓reduceIte,go_sem,hB.at,hB.2.1,mE,af hlt,af (show(kS s k:Int)=45 by omega)]
  refine kD (.inr (.inl ⟨rfl,B,s,k+1,by simp,by simp(disch:=first|omega|simp only[zz];try omega;done) only[↓reduceIte,go_sem,hB.2.1],by simp(disch:=first|omega|simp only[zz];try omega;done) only[↓reduceIte,go_sem,hB.at],by omega,hl,⟨kY,?_⟩⟩))
  rw[hf]at hr1 hr2 hK hdg hble
  obtain⟨e,he⟩:=kJ (nG s (k+1))
  rw[<-he]at hr1 hr2 ⊢
  obtain⟨h1,hh1⟩:=kJ ((h.push (.cells lM.toArray 177)).push (.cells (kT 0 0).toArray 44))
  rw[<-hh1]at sp1 T1 F1 b1 E1
  simp only[lM,kT]at hh1
  simp(disch:=first|omega|simp only[zz];try omega;done) only[↓reduceIte,go_sem,Vs]
  rw[<-hh1]
  clear sp T0 hh1
  obtain⟨u1,hu1⟩:=kJ (ub (ub u h.size 0) (h.size+1) 0)
  rw[<-hu1]at sp1 T1 F1 b1 E1
  have b11:=b1.1;have T11:=T1.1;have F11:=F1.1
  obtain⟨I,hI⟩:=kJ (α:=Nat->lm->H->Prop) λj σ h'=>σ 0= .pointer (some ⟨B,0,none⟩)/\σ 2= .pointer (some ⟨h.size,0,none⟩)/\σ 3= .pointer (some ⟨h.size+1,0,none⟩)/\σ 4= .int .i64 k/\σ 6= .int .i64 e/\σ 7= .int .i64 j/\h'=h1/\k+1<=j/\j<=e/\ ∀i,k+1<=i->i<j->qB (kS s i)=true
  refine kH I (λj=>e - j) (k+1) (by
   rw[hI]
   exact⟨by simp [kF],by simp [kF],by simp [kF],by simp [kF],by simp [kF],by simp [kF],rfl,by omega,by omega,λi h1 h2=>by omega⟩) ?_
  intro j σ h' hy
  rw[hI]at hy
  obtain⟨e0,e2,e3,e4,e6,e7,rfl,hbj,hje,hall⟩:=hy
  by_cases hj:j<e
  ·simp(disch:=first|omega|simp only[zz];try omega;done) only[↓reduceIte,go_sem,e0,e6,e7,af hj,b1.at,b1.2.1,af (show j<s.length by omega),mE]
   refine kD (.inl ⟨rfl,kS s j,rfl,⟨kY,?_⟩⟩)
   cases hd:qB (kS s j)with
   |true=>
    simp(disch:=first|omega|simp only[zz];try omega;done) only[↓reduceIte,go_sem,e7]
    refine⟨j+1,?_,by omega⟩
    rw[hI]
    exact⟨by simp [kF,e0],by simp [kF,e2],by simp [kF,e3],by simp [kF,e4],by simp [kF,e6],by simp [kF],rfl,by omega,by omega,λi q1 q2=>by
     by_cases q:i=j
     ·rw[q];exact hd
     ·exact hall i q1 (by omega)⟩
   |false=>
    have hbad:uk s k (k+1)= .bad 13 k:=VA (by
     rw[<-he]
     cases hq:wR s (k+1) e with
     |false=>rfl
     |true=>have:=(wQ hr2).1 hq j hbj hj;rw[hd]at this;cases this)
    rw[hbad]at hK
    simp(disch:=first|omega|simp only[zz];try omega;done) only[↓reduceIte,go_sem,e0,e4]
    refine kD (.inr (.inr (.inl ⟨rfl,u1,_,13,k,rfl,λu2 h2 s2=>⟨kY,?_⟩⟩)))
    have T2:=T1.sZ s2
    have F2:=F1.sZ s2
    obtain⟨r1,r2,r3,-⟩:=sW (la:=lM) (lb:=kT 13 k) (sp1.tZ s2) T2 F2 (by omega) (by omega) (by omega) rfl rfl
    have T21:=T2.1
    have F21:=F2.1
    simp only[lM,kT]at r1 r2 r3
    simp(disch:=first|omega|simp only[zz];try omega;done) only[↓reduceIte,go_sem,e2,e3,lM,kT,T2.2.1,T2.2.2.1,F2.2.1,F2.2.2.1,lu,lw,r2.at,r3.at,r2.2.1,r3.2.1]
    exact hK _ _ r1 (λt ht=>by cases ht)
  ·obtain rfl:j=e:=by omega
   have hdall:wR s (k+1) j=true:=(wQ hr2).2 hall
   have hie:=Tx (s:=s) (k:=k) (by rw[hf,<-he];exact hdall)
   rw[hf,hneg,<-he]at hie
   rw[hie]at hK
   have hsub:=Ms (s:=s) (k:=k) (e:=j) (by rw[hf];omega) hr2 hlt
   rw[hf,hneg]at hsub
   have hsl:=tJ (s:=s) (a:=k+1) hr2
   simp(disch:=first|omega|simp only[zz];try omega;done) only[↓reduceIte,go_sem,e0,e4,e6,e7,b1.at,b1.2.1,af (show k<=j by omega),af hr2]
   rw[hsub]
   refine kD (.inr (.inr (.inr ⟨rfl,u1,true,sub s (k+1) j,rfl,by omega,by intro q;rw[q]at hsl;simp at hsl;omega,λc hc=>(bU.1 hdall) c hc,E1,λu3 h3 s3=> ?_⟩)))
   have st3:=sp1.tZ s3
   have T3:=T1.sZ s3
   have F3:=F1.sZ s3
   have b3:=b1.sZ s3
   have b31:=b3.1;have T31:=T3.1;have F31:=F3.1
   cases hv:rX true (sub s (k+1) j)with
   |none=>
    rw[hv]at hK
    simp only
    intro n t p
    refine⟨kY,?_⟩
    simp(disch:=first|omega|simp only[zz];try omega;done) only[↓reduceIte,go_sem,e0,e4]
    refine kD (.inr (.inr (.inl ⟨rfl,u3,_,13,k,rfl,λu2 h2 s2=>⟨kY,?_⟩⟩)))
    have T2:=T3.sZ s2
    have F2:=F3.sZ s2
    obtain⟨r1,r2,r3,-⟩:=sW (la:=lM) (lb:=kT 13 k) (st3.tZ s2) T2 F2 (by omega) (by omega) (by omega) rfl rfl
    have T21:=T2.1
    have F21:=F2.1
    simp only[lM,kT]at r1 r2 r3
    simp(disch:=first|omega|simp only[zz];try omega;done) only[↓reduceIte,go_sem,e2,e3,lM,kT,T2.2.1,T2.2.2.1,F2.2.1,F2.2.2.1,lu,lw,r2.at,r3.at,r2.2.1,r3.2.1]
    exact hK _ _ r1 (λt ht=>by cases ht)
   |some v=>
    rw[hv]at hK
    simp only
    refine⟨kY,?_⟩
    have hst2:=st3.setR (o:=1) (v:= .int .i64 (j:Int)) (.inr rfl) (by rw[b3.2.2.2.1];exact az _)
    have b4:Mw u3 (lh h3 B 1 (.int .i64 (j:Int))) B s j:=b3.set (i:=1) (v:= .int .i64 (j:Int)) (by simp)
    have ss:=kG.set (S:=λi=>i=B) u3 h3 (o:=1) (.int .i64 (j:Int)) (b:=B) rfl (by rw[b3.2.2.2.1];exact az _)
    have T4:=T3.step ss (by omega)
    have F4:=F3.step ss (by omega)
    obtain⟨r1,r2,r3,r4⟩:=sW (la:=[.int .i64 3,str [],.int .i64 v,.int .i64 0,.int .i64 k,.int .i64 (j:Int)]) (lb:=kT 0 0) hst2 T4 F4 (by omega) (by omega) (by omega) rfl rfl
    have b5:=r4 B _ b4 (by omega) (by omega)
    have T41:=T4.1;have F41:=F4.1
    have T42:=T4.2.1
    have F42:=F4.2.1
    simp only[lM,kT,aM,bg]at r1 r2 r3 b5 T42 F42
    simp(disch:=first|omega|simp only[zz];try omega;done) only[↓reduceIte,go_sem,e0,e2,e3,e4,e6,b3.2.1,b3.2.2.1,T42,T4.2.2.1,F42,F4.2.2.1,lu,lw,r2.at,r3.at,r2.2.1,r3.2.1]
    exact hK _ _ r1 (λt ht=>by cases ht;exact b5)
 ·have hf:mh s k=k:=by unfold mh;rw[ah hm]
  have hneg:Dk s k=false:=by unfold Dk;exact decide_eq_false hm
  simp(disch:=first|omega|simp only[zz];try omega;done) only[↓reduceIte,go_sem,hB.at,hB.2.1,mE,af hlt,au (show¬(kS s k:Int)=45 by omega)]
  refine kD (.inr (.inl ⟨rfl,B,s,k,by simp,by simp(disch:=first|omega|simp only[zz];try omega;done) only[↓reduceIte,go_sem,hB.2.1],by simp(disch:=first|omega|simp only[zz];try omega;done) only[↓reduceIte,go_sem,hB.at],by omega,hl,⟨kY,?_⟩⟩))
  rw[hf]at hr1 hr2 hK hdg hble
  obtain⟨e,he⟩:=kJ (nG s (k))
  rw[<-he]at hr1 hr2 ⊢
  obtain⟨h1,hh1⟩:=kJ ((h.push (.cells lM.toArray 177)).push (.cells (kT 0 0).toArray 44))
  rw[<-hh1]at sp1 T1 F1 b1 E1
  simp only[lM,kT]at hh1
  simp(disch:=first|omega|simp only[zz];try omega;done) only[↓reduceIte,go_sem,Vs]
  rw[<-hh1]
  clear sp T0 hh1
  obtain⟨u1,hu1⟩:=kJ (ub (ub u h.size 0) (h.size+1) 0)
  rw[<-hu1]at sp1 T1 F1 b1 E1
  have b11:=b1.1;have T11:=T1.1;have F11:=F1.1
  obtain⟨I,hI⟩:=kJ (α:=Nat->lm->H->Prop) λj σ h'=>σ 0= .pointer (some ⟨B,0,none⟩)/\σ 2= .pointer (some ⟨h.size,0,none⟩)/\σ 3= .pointer (some ⟨h.size+1,0,none⟩)/\σ 4= .int .i64 k/\σ 6= .int .i64 e/\σ 7= .int .i64 j/\h'=h1/\k<=j/\j<=e/\ ∀i,k<=i->i<j->qB (kS s i)=true
  refine kH I (λj=>e - j) (k) (by
   rw[hI]
   exact⟨by simp [kF],by simp [kF],by simp [kF],by simp [kF],by simp [kF],by simp [kF],rfl,by omega,by omega,λi h1 h2=>by omega⟩) ?_
  intro j σ h' hy
  rw[hI]at hy
  obtain⟨e0,e2,e3,e4,e6,e7,rfl,hbj,hje,hall⟩:=hy
  by_cases hj:j<e
  ·simp(disch:=first|omega|simp only[zz];try omega;done) only[↓reduceIte,go_sem,e0,e6,e7,af hj,b1.at,b1.2.1,af (show j<s.length by omega),mE]
   refine kD (.inl ⟨rfl,kS s j,rfl,⟨kY,?_⟩⟩)
   cases hd:qB (kS s j)with
   |true=>
    simp(disch:=first|omega|simp only[zz];try omega;done) only[↓reduceIte,go_sem,e7]
    refine⟨j+1,?_,by omega⟩
    rw[hI]
    exact⟨by simp [kF,e0],by simp [kF,e2],by simp [kF,e3],by simp [kF,e4],by simp [kF,e6],by simp [kF],rfl,by omega,by omega,λi q1 q2=>by
     by_cases q:i=j
     ·rw[q];exact hd
     ·exact hall i q1 (by omega)⟩
   |false=>
    have hbad:uk s k (k)= .bad 13 k:=VA (by
     rw[<-he]
     cases hq:wR s (k) e with
     |false=>rfl
     |true=>have:=(wQ hr2).1 hq j hbj hj;rw[hd]at this;cases this)
    rw[hbad]at hK
    simp(disch:=first|omega|simp only[zz];try omega;done) only[↓reduceIte,go_sem,e0,e4]
    refine kD (.inr (.inr (.inl ⟨rfl,u1,_,13,k,rfl,λu2 h2 s2=>⟨kY,?_⟩⟩)))
    have T2:=T1.sZ s2
    have F2:=F1.sZ s2
    obtain⟨r1,r2,r3,-⟩:=sW (la:=lM) (lb:=kT 13 k) (sp1.tZ s2) T2 F2 (by omega) (by omega) (by omega) rfl rfl
    have T21:=T2.1
    have F21:=F2.1
    simp only[lM,kT]at r1 r2 r3
    simp(disch:=first|omega|simp only[zz];try omega;done) only[↓reduceIte,go_sem,e2,e3,lM,kT,T2.2.1,T2.2.2.1,F2.2.1,F2.2.2.1,lu,lw,r2.at,r3.at,r2.2.1,r3.2.1]
    exact hK _ _ r1 (λt ht=>by cases ht)
  ·obtain rfl:j=e:=by omega
   have hdall:wR s (k) j=true:=(wQ hr2).2 hall
   have hie:=Tx (s:=s) (k:=k) (by rw[hf,<-he];exact hdall)
   rw[hf,hneg,<-he]at hie
   rw[hie]at hK
   have hsub:=Ms (s:=s) (k:=k) (e:=j) (by rw[hf];omega) hr2 hlt
   rw[hf,hneg]at hsub
   have hsl:=tJ (s:=s) (a:=k) hr2
   simp(disch:=first|omega|simp only[zz];try omega;done) only[↓reduceIte,go_sem,e0,e4,e6,e7,b1.at,b1.2.1,af (show k<=j by omega),af hr2]
   rw[hsub]
   refine kD (.inr (.inr (.inr ⟨rfl,u1,false,sub s (k) j,rfl,by omega,by intro q;rw[q]at hsl;simp at hsl;omega,λc hc=>(bU.1 hdall) c hc,E1,λu3 h3 s3=> ?_⟩)))
   have st3:=sp1.tZ s3
   have T3:=T1.sZ s3
   have F3:=F1.sZ s3
   have b3:=b1.sZ s3
   have b31:=b3.1;have T31:=T3.1;have F31:=F3.1
   cases hv:rX false (sub s (k) j)with
   |none=>
    rw[hv]at hK
    simp only
    intro n t p
    refine⟨kY,?_⟩
    simp(disch:=first|omega|simp only[zz];try omega;done) only[↓reduceIte,go_sem,e0,e4]
    refine kD (.inr (.inr (.inl ⟨rfl,u3,_,13,k,rfl,λu2 h2 s2=>⟨kY,?_⟩⟩)))
    have T2:=T3.sZ s2
    have F2:=F3.sZ s2
    obtain⟨r1,r2,r3,-⟩:=sW (la:=lM) (lb:=kT 13 k) (st3.tZ s2) T2 F2 (by omega) (by omega) (by omega) rfl rfl
    have T21:=T2.1
    have F21:=F2.1
    simp only[lM,kT]at r1 r2 r3
    simp(disch:=first|omega|simp only[zz];try omega;done) only[↓reduceIte,go_sem,e2,e3,lM,kT,T2.2.1,T2.2.2.1,F2.2.1,F2.2.2.1,lu,lw,r2.at,r3.at,r2.2.1,r3.2.1]
    exact hK _ _ r1 (λt ht=>by cases ht)
   |some v=>
    rw[hv]at hK
    simp only
    refine⟨kY,?_⟩
    have hst2:=st3.setR (o:=1) (v:= .int .i64 (j:Int)) (.inr rfl) (by rw[b3.2.2.2.1];exact az _)
    have b4:Mw u3 (lh h3 B 1 (.int .i64 (j:Int))) B s j:=b3.set (i:=1) (v:= .int .i64 (j:Int)) (by simp)
    have ss:=kG.set (S:=λi=>i=B) u3 h3 (o:=1) (.int .i64 (j:Int)) (b:=B) rfl (by rw[b3.2.2.2.1];exact az _)
    have T4:=T3.step ss (by omega)
    have F4:=F3.step ss (by omega)
    obtain⟨r1,r2,r3,r4⟩:=sW (la:=[.int .i64 3,str [],.int .i64 v,.int .i64 0,.int .i64 k,.int .i64 (j:Int)]) (lb:=kT 0 0) hst2 T4 F4 (by omega) (by omega) (by omega) rfl rfl
    have b5:=r4 B _ b4 (by omega) (by omega)
    have T41:=T4.1;have F41:=F4.1
    have T42:=T4.2.1
    have F42:=F4.2.1
    simp only[lM,kT,aM,bg]at r1 r2 r3 b5 T42 F42
    simp(disch:=first|omega|simp only[zz];try omega;done) only[↓reduceIte,go_sem,e0,e2,e3,e4,e6,b3.2.1,b3.2.2.1,T42,T4.2.2.1,F42,F4.2.2.1,lu,lw,r2.at,r3.at,r2.2.1,r3.2.1]
    exact hK _ _ r1 (λt ht=>by cases ht;exact b5)
end Go.Proofs.Z
namespace Edict
abbrev Sg:=List UInt8×Int×Int
def nH:List Sg:=[([58,45],9,0),([33,61],11,2),([60,61],11,4),([62,61],11,6),([60],11,3),([62],11,5),([61],11,1),([40],5,0),([41],6,0),([44],7,0),([46],8,0)]
def sV(s:List UInt8)(o:Nat):List Sg->TR
 |[]=> .bad 10 o
 |x::r=>if x.1.isPrefixOf (s.drop o)then MC x.2.1 x.2.2 o x.1.length else sV s o r
theorem adt{s:List UInt8}{o:Nat}(h:o<s.length)(a:UInt8):List.isPrefixOf [a] (s.drop o)=decide (kS s o=a.toNat):=by
 rw[bK h]
 have:kS s o=s[o].toNat:=by unfold kS;rw[aO,aL h];rfl
 rw[this]
 simp only[List.isPrefixOf,jk]
 apply dm.2
 simp only[beq_iff_eq,bf,gT]
 exact eq_comm
end Edict
namespace Go.Proofs.Z
open Go Go.Ev Edict
variable {o:Nat} {s:List UInt8} {u:U} {h:H} {u':U} {h':H}
theorem Dj(h:o<s.length):wS s o=sV s o nH:=by
 unfold wS nH
 simp only[sV,TF,adt h,bf,aM,bg]
 rfl
theorem zP{i:Nat}{l:List Sg}{x:Sg}(h:l[i]? =some x):sV s o (l.drop i)=if x.1.isPrefixOf (s.drop o)then MC x.2.1 x.2.2 o x.1.length else sV s o (l.drop (i+1)):=by
 obtain⟨hi,rfl⟩:=aJ.1 h
 rw[bK hi];rfl
theorem Tw{k:Sg}{cs:List Value}:Rep.rep u h k cs=(cs=[str k.1,.int .i64 k.2.1,.int .i64 k.2.2]):=by simp [mO,lD,qK]
theorem aaw:Rep.sz Sg=3:=rfl
def SgG(u:U)(h:H):Prop:=2<h.size/\1<=hsz h 2/\1<=u 2/\kM u h (hv h 2 0) nH
theorem SgG.mono(k:SgG u h)(g:Ge u h u' h'):SgG u' h':=by
 obtain⟨k1,k2,k3,k4⟩:=k
 refine⟨bM k1 g.sz,by rw[(g.hs _ k1).1];exact k2,aY k3 (g.up _ k1),?_⟩
 rw[g.cl _ k1 0 (by omega)];exact k4.mono g
def Kg(u:U)(h:H):Prop:=SgG u h/\Ty u h
theorem Kg.mono(k:Kg u h)(g:Ge u h u' h'):Kg u' h':=⟨k.1.mono g,k.2.mono g⟩
def aax:mG:=λf vs h K _=>(f=124/\VG vs h K)\/(f=125/\Cf vs h K)\/(f=126/\Cc qB vs h K)\/(f=127/\TA vs h K)\/
 (f=128/\Ey Ty (λs k=>uk s k (mh s k)) (λs k=>k<s.length/\qB (kS s (mh s k))=true) vs h K)\/(f=129/\Cc uJ vs h K)\/
 (f=130/\Ey noG rY (λs k=>k<s.length/\uJ (kS s k)=true) vs h K)\/(f=131/\Ey noG (λs k=>mU s k (k+1) []) (λs k=>k<s.length) vs h K)\/(f=132/\pU vs h K)
theorem Pm:nz Tryz.prog aax:=mK aaI (mK xM (mK uP (mK Kh (mK Mt (mK Ez (mK XQ (mK XP (qd yR))))))))
theorem aay(h:o<s.length):wT s o=if qB (kS s o)then uk s o o else if kS s o=45/\qB (kS s (o+1))=true then uk s o (o+1)else if uJ (kS s o)then rY s o else if kS s o=34 then mU s o (o+1) []else wS s o:=by
 unfold wT;rw[ah (by omega)]
theorem XN{vs:List Value}{K:Value->H->Prop}{KP:List PanicEntry->H->Prop}(hC:Ey Kg oo (λ_ _=>True) vs h K):ma Tryz.prog 118 vs h K KP:=by
 obtain⟨u,B,s,k,rfl,hB,hk,hl,-,hG,hK⟩:=hC
 have hB1:=hB.1
 refine kP 154884250268604471248487165 [((some (.c1 (.ldn 6) (.t 2))),(.o1 (.ldn 6) (.t 2))),((some (.c1 (.ldn 3) (.t 3))),(.o1 (.ldn 3) (.t 3)))] Pm Tryz.func118 (by kernel_rfl) (by apply c0 rfl;repeat' first|apply cS|apply cK|apply cL|apply cX|(apply cC (by decide))|(conv=>lhs;cbv;try simp only[mF])) ?_
 have sp:kG (λi=>i=B) u h _ _:=kG.qZ (λi=>i=B) u h lM.toArray 177
 have T0:kV (ub u h.size 0) (h.push (.cells lM.toArray 177)) h.size lM:=kV.new lM _
 have sp1:=sp.pZ (c:=(kT 0 0).toArray) (t:=44)
 have T1:=T0.pZ (c:=(kT 0 0).toArray) (t:=44)
 have F1:=kV.new (u:=ub u h.size 0) (h:=h.push (.cells lM.toArray 177)) (kT 0 0) 44
 have b1:=(hB.pZ (c:=lM.toArray) (t:=177)).pZ (c:=(kT 0 0).toArray) (t:=44)
 simp only[yj]at sp1 T1 F1 b1
 simp(disch:=first|omega|simp only[zz];try omega;done) only[↓reduceIte,go_sem]
 obtain⟨h1,hh1⟩:=kJ ((h.push (.cells lM.toArray 177)).push (.cells (kT 0 0).toArray 44))
 rw[<-hh1]at sp1 T1 F1 b1
 simp only[lM,kT]at hh1
 rw[<-hh1]
 clear sp T0 hh1
 obtain⟨u1,hu1⟩:=kJ (ub (ub u h.size 0) (h.size+1) 0)
 rw[<-hu1]at sp1 T1 F1 b1
 clear hu1
 refine kD (.inl ⟨rfl,B,s,k,rfl,⟨b1.2.1,b1.2.2.1,b1.at 0 (by simp),b1.at 1 (by simp),hk,hl⟩,λj hj hg=> ?_⟩)
 have gl:=yQ hk
 obtain⟨o,ho⟩:=kJ ((nK s k).1)
 have st2:=sp1.setR (o:=1) (v:= .int .i64 (j:Int)) (.inr rfl) (by rw[b1.2.2.2.1];exact az _)
 have b2:Mw u1 (lh h1 B 1 (.int .i64 (j:Int))) B s j:=b1.set (i:=1) (v:= .int .i64 (j:Int)) (by simp)
 have ss:=kG.set (S:=λi=>i=B) u1 h1 (o:=1) (.int .i64 (j:Int)) (b:=B) rfl (by rw[b1.2.2.2.1];exact az _)
 have T2:=T1.step ss (by omega)
 have F2:=F1.step ss (by omega)
 obtain⟨h2,hh2⟩:=kJ (lh h1 B 1 (.int .i64 (j:Int)))
 rw[<-hh2]at st2 b2 T2 F2 ⊢
 clear hh2 ss T1 F1 b1 sp1
 have G2:=hG.mono st2.ge
 have b21:=b2.1;have T21:=T2.1;have F21:=F2.1
 refine⟨kY,?_⟩
 rw[<-ho]at gl hg ⊢
 cases hg2:(nK s k).2 with
 |false=>
  have hn:oo s k= .bad 16 o:=by unfold oo;rw[hg2,<-ho];rfl
  rw[hn]at hK
  simp(disch:=first|omega|simp only[zz];try omega;done) only[↓reduceIte,go_sem,Vs]
  refine kD (.inr (.inl ⟨rfl,u1,_,16,o,rfl,λu4 h4 s4=>⟨kY,?_⟩⟩))
  have T4:=T2.sZ s4
  have F4:=F2.sZ s4
  obtain⟨r1,r2,r3,-⟩:=sW (la:=lM) (lb:=kT 16 o) (st2.tZ s4) T4 F4 (by omega) (by omega) (by omega) rfl rfl
  have T41:=T4.1
  have F41:=F4.1
  simp only[lM,kT]at r1 r2 r3
  simp(disch:=first|omega|simp only[zz];try omega;done) only[↓reduceIte,go_sem,lM,kT,T4.2.1,T4.2.2.1,F4.2.1,F4.2.2.1,lu,lw,r2.at,r3.at,r2.2.1,r3.2.1]
  exact hK _ _ r1 (λt ht=>by cases ht)
 |true=>
  have hn:oo s k=wT s o:=by unfold oo;rw[hg2,<-ho];rfl
  obtain rfl:j=o:=hg hg2
  rw[hn]at hK
  clear hn hg hg2 ho
  by_cases hend:j=s.length
  ·have ht:wT s j= .ok (0,[],0,0,j,j):=by unfold wT;rw[ay (by omega)]
   rw[ht]at hK
   obtain⟨r1,r2,r3,r4⟩:=sW (la:=[.int .i64 0,str [],.int .i64 0,.int .i64 0,.int .i64 j,.int .i64 j]) (lb:=kT 0 0) st2 T2 F2 (by omega) (by omega) (by omega) rfl rfl
   have b3:=r4 B _ b2 (by omega) (by omega)
   simp only[kT]at r1 r2 r3 b3
   have T22:=T2.2.1
   have F22:=F2.2.1
   simp only[lM,kT,aM,bg]at T22 F22
   simp(disch:=first|omega|simp only[zz];try omega;done) only[↓reduceIte,go_sem,b2.at,b2.2.1,af (show(j:Int)=(s.length:Nat) by omega),T22,T2.2.2.1,F22,F2.2.2.1,lu,lw,r2.at,r3.at,r2.2.1,r3.2.1]
   exact hK _ _ r1 (λt ht=>by cases ht;exact b3)
  have hjl:j<s.length:=by omega
  rw[aay hjl]at hK
  simp(disch:=first|omega|simp only[zz];try omega;done) only[↓reduceIte,go_sem,b2.at,b2.2.1,au (show¬(j:Int)=(s.length:Nat) by omega),af hjl,mE]
  refine kD (.inr (.inr (.inl ⟨rfl,kS s j,rfl,⟨kY,?_⟩⟩)))
  cases hd:qB (kS s j)with
  |true=>
   have hf:mh s j=j:=by unfold mh;rw[ah (by unfold qB at hd;simp at hd;omega)]
   rw[hd,ay rfl]at hK
   simp(disch:=first|omega|simp only[zz];try omega;done) only[↓reduceIte,go_sem,Vs]
   refine kD (.inr (.inr (.inr (.inr (.inl ⟨rfl,u1,B,s,j,rfl,b2,hj,hl,⟨hjl,by rw[hf];exact hd⟩,G2.2,λu3 h3 s3 hr3=> ?_⟩)))))
   simp only[hf]at hr3 ⊢
   have st3:=st2.trans s3 (λq _ h=>h)
   have T3:=T2.step s3 (by omega)
   have F3:=F2.step s3 (by omega)
   have T31:=T3.1
   have F31:=F3.1
   have T32:=T3.2.1
   have F32:=F3.2.1
   simp only[lM,kT,aM,bg]at T32 F32
   cases hr:uk s j j with
   |ok t=>
    rw[hr]at hK hr3
    have b3:=hr3 t rfl
    obtain⟨r1,r2,r3,r4⟩:=sW (la:=lK t) (lb:=kT 0 0) st3 T3 F3 (by omega) (by omega) (by omega) rfl rfl
    have b4:=r4 B _ b3 (by omega) (by omega)
    simp only[lK,kT]at r1 r2 r3 b4
    refine⟨kY,?_⟩
    simp only[Dl,lK,kT]
    simp(disch:=first|omega|simp only[zz];try omega;done) only[↓reduceIte,go_sem,T32,T3.2.2.1,F32,F3.2.2.1,lu,lw,r2.at,r3.at,r2.2.1,r3.2.1]
    exact hK _ _ r1 (λt' ht=>by cases ht;exact b4)
   |bad c o'=>
    rw[hr]at hK
    obtain⟨r1,r2,r3,-⟩:=sW (la:=lM) (lb:=kT c o') st3 T3 F3 (by omega) (by omega) (by omega) rfl rfl
    simp only[lM,kT]at r1 r2 r3
    refine⟨kY,?_⟩
    simp only[Dl,lM,kT]
    simp(disch:=first|omega|simp only[zz];try omega;done) only[↓reduceIte,go_sem,T32,T3.2.2.1,F32,F3.2.2.1,lu,lw,r2.at,r3.at,r2.2.1,r3.2.1]
    exact hK _ _ r1 (λt' ht=>by cases ht)
  |false=>
   rw[hd]at hK
   simp only[aV,bZ]at hK
   by_cases hm:kS s j=45
   ·simp(disch:=first|omega|simp only[zz];try omega;done) only[↓reduceIte,go_sem,af (show(kS s j:Int)=45 by omega)]
    refine kD (.inr (.inr (.inr (.inl ⟨rfl,B,s,j,1,rfl,b2.2.1,b2.at 0 (by simp),b2.at 1 (by simp),hj,hl,by omega,⟨kY,?_⟩⟩))))
    simp(disch:=first|omega|simp only[zz];try omega;done) only[↓reduceIte,go_sem,af (show(kS s j:Int)=45 by omega)]
    refine kD (.inr (.inr (.inl ⟨rfl,kS s (j+1),rfl,⟨kY,?_⟩⟩)))
    cases hd1:qB (kS s (j+1))with
    |true=>
     have hf:mh s j=j+1:=by unfold mh;rw[ay hm]
     rw[ay ⟨hm,hd1⟩]at hK
     simp(disch:=first|omega|simp only[zz];try omega;done) only[↓reduceIte,go_sem,af (show(kS s j:Int)=45 by omega)]
     refine kD (.inr (.inr (.inr (.inr (.inl ⟨rfl,u1,B,s,j,rfl,b2,hj,hl,⟨hjl,by rw[hf];exact hd1⟩,G2.2,λu3 h3 s3 hr3=> ?_⟩)))))
     simp only[hf]at hr3 ⊢
     have st3:=st2.trans s3 (λq _ h=>h)
     have T3:=T2.step s3 (by omega)
     have F3:=F2.step s3 (by omega)
     have T31:=T3.1
     have F31:=F3.1
     have T32:=T3.2.1
     have F32:=F3.2.1
     simp only[lM,kT,aM,bg]at T32 F32
     cases hr:uk s j (j+1)with
     |ok t=>
      rw[hr]at hK hr3
      have b3:=hr3 t rfl
      obtain⟨r1,r2,r3,r4⟩:=sW (la:=lK t) (lb:=kT 0 0) st3 T3 F3 (by omega) (by omega) (by omega) rfl rfl
      have b4:=r4 B _ b3 (by omega) (by omega)
      simp only[lK,kT]at r1 r2 r3 b4
      refine⟨kY,?_⟩
      simp only[Dl,lK,kT]
      simp(disch:=first|omega|simp only[zz];try omega;done) only[↓reduceIte,go_sem,T32,T3.2.2.1,F32,F3.2.2.1,lu,lw,r2.at,r3.at,r2.2.1,r3.2.1]
      exact hK _ _ r1 (λt' ht=>by cases ht;exact b4)
     |bad c o'=>
      rw[hr]at hK
      obtain⟨r1,r2,r3,-⟩:=sW (la:=lM) (lb:=kT c o') st3 T3 F3 (by omega) (by omega) (by omega) rfl rfl
      simp only[lM,kT]at r1 r2 r3
      refine⟨kY,?_⟩
      simp only[Dl,lM,kT]
      simp(disch:=first|omega|simp only[zz];try omega;done) only[↓reduceIte,go_sem,T32,T3.2.2.1,F32,F3.2.2.1,lu,lw,r2.at,r3.at,r2.2.1,r3.2.1]
      exact hK _ _ r1 (λt' ht=>by cases ht)
    |false=>
     have hw:uJ (kS s j)=false:=by rw[hm];decide
     rw[ah (by rw[hd1];simp),hw]at hK
     simp only[aV,bZ]at hK
     rw[ah (by omega)]at hK
     simp(disch:=first|omega|simp only[zz];try omega;done) only[↓reduceIte,go_sem,af (show(kS s j:Int)=45 by omega)]
     refine kD (.inr (.inr (.inr (.inr (.inr (.inl ⟨rfl,kS s j,rfl,⟨kY,?_⟩⟩))))))
     rw[hw]
     simp(disch:=first|omega|simp only[zz];try omega;done) only[↓reduceIte,go_sem,au (show¬(kS s j:Int)=34 by omega)]
     rw[Dj hjl]at hK
     obtain⟨g1,g2,g3,g4⟩:=G2.1
     obtain⟨sa,sc,hse,-,-⟩:=g4.sl
     simp(disch:=first|omega|simp only[zz];try omega;done) only[↓reduceIte,go_sem,hse,af (show 0<hsz h2 2 by omega),show nH.length=11 from rfl]
     obtain⟨I,hI⟩: ∃I:Nat->lm->H->Prop,I=λi σ h'=>σ 0= .pointer (some ⟨B,0,none⟩)/\σ 2= .pointer (some ⟨h.size,0,none⟩)/\σ 3= .pointer (some ⟨h.size+1,0,none⟩)/\σ 6= .int .i64 j/\σ 73= .slice sa 11 sc/\σ 74= .int .i64 11/\σ 75= .int .i64 i/\i<=11/\sV s j nH=sV s j (nH.drop i)/\
       ∃u',kG (λi=>i=B) u h u' h'/\Mw u' h' B s j/\kV u' h' h.size lM/\kV u' h' (h.size+1) (kT 0 0)/\kM u' h' (.slice sa 11 sc) nH:=⟨_,rfl⟩
     refine kH I (λi=>11 - i) 0 (by
      rw[hI]
      exact⟨by simp [kF],by simp [kF],by simp [kF],by simp [kF],by simp [kF],by simp [kF],by simp [kF],by omega,rfl,u1,st2,b2,T2,F2,by rw[hse]at g4;exact g4⟩) ?_
     clear st2 b2 T2 F2 G2 g1 g2 g3 g4 b21 T21 F21
     intro i σ h' hy
     rw[hI]at hy
     obtain⟨e0,e2,e3,e6,e73,e74,e75,hi,hfd,u',st,b,T,F,hs⟩:=hy
     have b01:=b.1;have T01:=T.1;have F01:=F.1
     by_cases hlt:i<11
     ·obtain⟨x,hx⟩: ∃x,nH[i]? =some x:=⟨nH[i]'hlt,aL hlt⟩
      obtain⟨pb,po,rfl,hpb,hpu,hpz,hpr⟩:=hs.row i x hx
      rw[Tw]at hpr
      simp only[aaw,vD,aG,aP]at hpr hpu hpz
      obtain⟨p0,p1,p2⟩:=hpr
      have hx11:x.1.length<=2:=by
       have: ∀y∈nH,y.1.length<=2:=by decide
       exact this x (aI hx)
      rw[hfd,zP hx]at hK
      simp(disch:=first|omega|simp only[zz];try omega;done) only[↓reduceIte,go_sem,e0,e6,e73,e74,e75,af (show(i:Int)<11 by omega),p0,p1,p2,b.at,b.2.1,af (show j<=s.length by omega)]
      refine kD (.inr (.inr (.inr (.inr (.inr (.inr (.inr (.inr ⟨rfl,s.drop j,x.1,rfl,by rw[dL];omega,by omega,⟨kY,?_⟩⟩))))))))
      cases hp:x.1.isPrefixOf (s.drop j)with
      |true=>
       rw[hp,ay rfl]at hK
       have hpl:=(fw.1 hp).length_le
       rw[dL]at hpl
       have st3:=st.setR (o:=1) (v:= .int .i64 ((j+x.1.length:Nat):Int)) (.inr rfl) (by rw[b.2.2.2.1];exact az _)
       have b3:Mw u' (lh h' B 1 (.int .i64 ((j+x.1.length:Nat):Int))) B s (j+x.1.length):=b.set (i:=1) (v:= .int .i64 ((j+x.1.length:Nat):Int)) (by simp)
       have ss:=kG.set (S:=λi=>i=B) u' h' (o:=1) (.int .i64 ((j+x.1.length:Nat):Int)) (b:=B) rfl (by rw[b.2.2.2.1];exact az _)
       have T3:=T.step ss (by omega)
       have F3:=F.step ss (by omega)
       obtain⟨r1,r2,r3,r4⟩:=sW (la:=[.int .i64 x.2.1,str [],.int .i64 0,.int .i64 x.2.2,.int .i64 j,.int .i64 ((j+x.1.length:Nat):Int)]) (lb:=kT 0 0) st3 T3 F3 (by omega) (by omega) (by omega) rfl rfl
       have b4:=r4 B _ b3 (by omega) (by omega)
       have T31:=T3.1;have F31:=F3.1;have b31:=b3.1;have r21:=r2.1;have r31:=r3.1
       have q1:(lh h' B 1 (.int .i64 ((j+x.1.length:Nat):Int))).size=h'.size:=qz
       have q2:(kU (lh h' B 1 (.int .i64 ((j+x.1.length:Nat):Int))) h.size 0 [.int .i64 x.2.1,str [],.int .i64 0,.int .i64 x.2.2,.int .i64 j,.int .i64 ((j+x.1.length:Nat):Int)]).size=h'.size:=by rw[mX,qz]
       have T32:=T3.2.1
       have F32:=F3.2.1
       simp only[lM,kT,aM,bg]at r1 r2 r3 b4 T32 F32 r21 r31
       have ej:((j:Int)+(x.1.length:Nat))=((j+x.1.length:Nat):Int):=by omega
       simp(disch:=first|omega|simp only[zz];try omega;done) only[↓reduceIte,go_sem,e0,e2,e3,e6,ej,b.2.1,b.2.2.1,b3.at,b3.2.1,T32,T3.2.2.1,F32,F3.2.2.1,lu,lw,r2.at,r3.at,r2.2.1,r3.2.1]
       exact hK _ _ r1.pZ (λt ht=>by cases ht;exact b4.pZ)
      |false=>
       rw[hp]at hK
       simp only[aV,bZ]at hK
       have hfd':=hfd
       rw[zP hx,hp]at hfd'
       simp only[aV,bZ]at hfd'
       simp(disch:=first|omega|simp only[zz];try omega;done) only[↓reduceIte,go_sem,e75]
       refine⟨i+1,?_,by omega⟩
       rw[hI]
       exact⟨by simp [kF,e0],by simp [kF,e2],by simp [kF,e3],by simp [kF,e6],by simp [kF,e73],by simp [kF,e74],by simp [kF],by omega,hfd',_,st.pZ,b.pZ,T.pZ,F.pZ,hs.mono (kG.qZ S0 u' h' _ _).ge⟩
     ·obtain rfl:i=11:=by omega
      have hbad:sV s j nH= .bad 10 j:=hfd
      rw[hbad]at hK
      simp(disch:=first|omega|simp only[zz];try omega;done) only[↓reduceIte,go_sem,e0,e6,e74,e75]
      refine kD (.inr (.inl ⟨rfl,u',_,10,j,rfl,λu4 h4 s4=>⟨kY,?_⟩⟩))
      have T4:=T.sZ s4
      have F4:=F.sZ s4
      obtain⟨r1,r2,r3,-⟩:=sW (la:=lM) (lb:=kT 10 j) (st.tZ s4) T4 F4 (by omega) (by omega) (by omega) rfl rfl
      have T41:=T4.1
      have F41:=F4.1
      simp only[lM,kT]at r1 r2 r3
      simp(disch:=first|omega|simp only[zz];try omega;done) only[↓reduceIte,go_sem,e2,e3,lM,kT,T4.2.1,T4.2.2.1,F4.2.1,F4.2.2.1,lu,lw,r2.at,r3.at,r2.2.1,r3.2.1]
      exact hK _ _ r1 (λt ht=>by cases ht)
   ·rw[ah (λh=>hm h.1)]at hK
    simp(disch:=first|omega|simp only[zz];try omega;done) only[↓reduceIte,go_sem,au (show¬(kS s j:Int)=45 by omega)]
    refine kD (.inr (.inr (.inr (.inr (.inr (.inl ⟨rfl,kS s j,rfl,⟨kY,?_⟩⟩))))))
    cases hw:uJ (kS s j)with
    |true=>
     rw[hw,ay rfl]at hK
     simp(disch:=first|omega|simp only[zz];try omega;done) only[↓reduceIte,go_sem,Vs]
     refine kD (.inr (.inr (.inr (.inr (.inr (.inr (.inl ⟨rfl,u1,B,s,j,rfl,b2,hj,hl,⟨hjl,hw⟩,trivial,λu3 h3 s3 hr3=> ?_⟩)))))))
     have st3:=st2.trans s3 (λq _ h=>h)
     have T3:=T2.step s3 (by omega)
     have F3:=F2.step s3 (by omega)
     have T31:=T3.1
     have F31:=F3.1
     have T32:=T3.2.1
     have F32:=F3.2.1
     simp only[lM,kT,aM,bg]at T32 F32
     cases hr:rY s j with
     |ok t=>
      rw[hr]at hK hr3
      have b3:=hr3 t rfl
      obtain⟨r1,r2,r3,r4⟩:=sW (la:=lK t) (lb:=kT 0 0) st3 T3 F3 (by omega) (by omega) (by omega) rfl rfl
      have b4:=r4 B _ b3 (by omega) (by omega)
      simp only[lK,kT]at r1 r2 r3 b4
      refine⟨kY,?_⟩
      simp only[Dl,lK,kT]
      simp(disch:=first|omega|simp only[zz];try omega;done) only[↓reduceIte,go_sem,T32,T3.2.2.1,F32,F3.2.2.1,lu,lw,r2.at,r3.at,r2.2.1,r3.2.1]
      exact hK _ _ r1 (λt' ht=>by cases ht;exact b4)
     |bad c o'=>
      rw[hr]at hK
      obtain⟨r1,r2,r3,-⟩:=sW (la:=lM) (lb:=kT c o') st3 T3 F3 (by omega) (by omega) (by omega) rfl rfl
      simp only[lM,kT]at r1 r2 r3
      refine⟨kY,?_⟩
      simp only[Dl,lM,kT]
      simp(disch:=first|omega|simp only[zz];try omega;done) only[↓reduceIte,go_sem,T32,T3.2.2.1,F32,F3.2.2.1,lu,lw,r2.at,r3.at,r2.2.1,r3.2.1]
      exact hK _ _ r1 (λt' ht=>by cases ht)
    |false=>
     rw[hw]at hK
     simp only[aV,bZ]at hK
     by_cases hq:kS s j=34
     ·rw[ay hq]at hK
      simp(disch:=first|omega|simp only[zz];try omega;done) only[↓reduceIte,go_sem,af (show(kS s j:Int)=34 by omega)]
      refine kD (.inr (.inr (.inr (.inr (.inr (.inr (.inr (.inl ⟨rfl,u1,B,s,j,rfl,b2,hj,hl,hjl,trivial,λu3 h3 s3 hr3=> ?_⟩))))))))
      simp only at hr3 ⊢
      have st3:=st2.trans s3 (λq _ h=>h)
      have T3:=T2.step s3 (by omega)
      have F3:=F2.step s3 (by omega)
      have T31:=T3.1
      have F31:=F3.1
      have T32:=T3.2.1
      have F32:=F3.2.1
      simp only[lM,kT,aM,bg]at T32 F32
      cases hr:mU s j (j+1) []with
      |ok t=>
       rw[hr]at hK hr3
       have b3:=hr3 t rfl
       obtain⟨r1,r2,r3,r4⟩:=sW (la:=lK t) (lb:=kT 0 0) st3 T3 F3 (by omega) (by omega) (by omega) rfl rfl
       have b4:=r4 B _ b3 (by omega) (by omega)
       simp only[lK,kT]at r1 r2 r3 b4
       refine⟨kY,?_⟩
       simp only[Dl,lK,kT]
       simp(disch:=first|omega|simp only[zz];try omega;done) only[↓reduceIte,go_sem,T32,T3.2.2.1,F32,F3.2.2.1,lu,lw,r2.at,r3.at,r2.2.1,r3.2.1]
       exact hK _ _ r1 (λt' ht=>by cases ht;exact b4)
      |bad c o'=>
       rw[hr]at hK
       obtain⟨r1,r2,r3,-⟩:=sW (la:=lM) (lb:=kT c o') st3 T3 F3 (by omega) (by omega) (by omega) rfl rfl
       simp only[lM,kT]at r1 r2 r3
       refine⟨kY,?_⟩
       simp only[Dl,lM,kT]
       simp(disch:=first|omega|simp only[zz];try omega;done) only[↓reduceIte,go_sem,T32,T3.2.2.1,F32,F3.2.2.1,lu,lw,r2.at,r3.at,r2.2.1,r3.2.1]
       exact hK _ _ r1 (λt' ht=>by cases ht)
     ·rw[ah hq]at hK
      simp(disch:=first|omega|simp only[zz];try omega;done) only[↓reduceIte,go_sem,au (show¬(kS s j:Int)=34 by omega)]
      rw[Dj hjl]at hK
      obtain⟨g1,g2,g3,g4⟩:=G2.1
      obtain⟨sa,sc,hse,-,-⟩:=g4.sl
      simp(disch:=first|omega|simp only[zz];try omega;done) only[↓reduceIte,go_sem,hse,af (show 0<hsz h2 2 by omega),show nH.length=11 from rfl]
      obtain⟨I,hI⟩: ∃I:Nat->lm->H->Prop,I=λi σ h'=>σ 0= .pointer (some ⟨B,0,none⟩)/\σ 2= .pointer (some ⟨h.size,0,none⟩)/\σ 3= .pointer (some ⟨h.size+1,0,none⟩)/\σ 6= .int .i64 j/\σ 73= .slice sa 11 sc/\σ 74= .int .i64 11/\σ 75= .int .i64 i/\i<=11/\sV s j nH=sV s j (nH.drop i)/\
        ∃u',kG (λi=>i=B) u h u' h'/\Mw u' h' B s j/\kV u' h' h.size lM/\kV u' h' (h.size+1) (kT 0 0)/\kM u' h' (.slice sa 11 sc) nH:=⟨_,rfl⟩
      refine kH I (λi=>11 - i) 0 (by
       rw[hI]
       exact⟨by simp [kF],by simp [kF],by simp [kF],by simp [kF],by simp [kF],by simp [kF],by simp [kF],by omega,rfl,u1,st2,b2,T2,F2,by rw[hse]at g4;exact g4⟩) ?_
      clear st2 b2 T2 F2 G2 g1 g2 g3 g4 b21 T21 F21
      intro i σ h' hy
      rw[hI]at hy
      obtain⟨e0,e2,e3,e6,e73,e74,e75,hi,hfd,u',st,b,T,F,hs⟩:=hy
      have b01:=b.1;have T01:=T.1;have F01:=F.1
      by_cases hlt:i<11
      ·obtain⟨x,hx⟩: ∃x,nH[i]? =some x:=⟨nH[i]'hlt,aL hlt⟩
       obtain⟨pb,po,rfl,hpb,hpu,hpz,hpr⟩:=hs.row i x hx
       rw[Tw]at hpr
       simp only[aaw,vD,aG,aP]at hpr hpu hpz
       obtain⟨p0,p1,p2⟩:=hpr
       have hx11:x.1.length<=2:=by
        have: ∀y∈nH,y.1.length<=2:=by decide
        exact this x (aI hx)
       rw[hfd,zP hx]at hK
       simp(disch:=first|omega|simp only[zz];try omega;done) only[↓reduceIte,go_sem,e0,e6,e73,e74,e75,af (show(i:Int)<11 by omega),p0,p1,p2,b.at,b.2.1,af (show j<=s.length by omega)]
       refine kD (.inr (.inr (.inr (.inr (.inr (.inr (.inr (.inr ⟨rfl,s.drop j,x.1,rfl,by rw[dL];omega,by omega,⟨kY,?_⟩⟩))))))))
       cases hp:x.1.isPrefixOf (s.drop j)with
       |true=>
        rw[hp,ay rfl]at hK
        have hpl:=(fw.1 hp).length_le
        rw[dL]at hpl
        have st3:=st.setR (o:=1) (v:= .int .i64 ((j+x.1.length:Nat):Int)) (.inr rfl) (by rw[b.2.2.2.1];exact az _)
        have b3:Mw u' (lh h' B 1 (.int .i64 ((j+x.1.length:Nat):Int))) B s (j+x.1.length):=b.set (i:=1) (v:= .int .i64 ((j+x.1.length:Nat):Int)) (by simp)
        have ss:=kG.set (S:=λi=>i=B) u' h' (o:=1) (.int .i64 ((j+x.1.length:Nat):Int)) (b:=B) rfl (by rw[b.2.2.2.1];exact az _)
        have T3:=T.step ss (by omega)
        have F3:=F.step ss (by omega)
        obtain⟨r1,r2,r3,r4⟩:=sW (la:=[.int .i64 x.2.1,str [],.int .i64 0,.int .i64 x.2.2,.int .i64 j,.int .i64 ((j+x.1.length:Nat):Int)]) (lb:=kT 0 0) st3 T3 F3 (by omega) (by omega) (by omega) rfl rfl
        have b4:=r4 B _ b3 (by omega) (by omega)
        have T31:=T3.1;have F31:=F3.1;have b31:=b3.1;have r21:=r2.1;have r31:=r3.1
        have q1:(lh h' B 1 (.int .i64 ((j+x.1.length:Nat):Int))).size=h'.size:=qz
        have q2:(kU (lh h' B 1 (.int .i64 ((j+x.1.length:Nat):Int))) h.size 0 [.int .i64 x.2.1,str [],.int .i64 0,.int .i64 x.2.2,.int .i64 j,.int .i64 ((j+x.1.length:Nat):Int)]).size=h'.size:=by rw[mX,qz]
        have T32:=T3.2.1
        have F32:=F3.2.1
        simp only[lM,kT,aM,bg]at r1 r2 r3 b4 T32 F32 r21 r31
        have ej:((j:Int)+(x.1.length:Nat))=((j+x.1.length:Nat):Int):=by omega
        simp(disch:=first|omega|simp only[zz];try omega;done) only[↓reduceIte,go_sem,e0,e2,e3,e6,ej,b.2.1,b.2.2.1,b3.at,b3.2.1,T32,T3.2.2.1,F32,F3.2.2.1,lu,lw,r2.at,r3.at,r2.2.1,r3.2.1]
        exact hK _ _ r1.pZ (λt ht=>by cases ht;exact b4.pZ)
       |false=>
        rw[hp]at hK
        simp only[aV,bZ]at hK
        have hfd':=hfd
        rw[zP hx,hp]at hfd'
        simp only[aV,bZ]at hfd'
        simp(disch:=first|omega|simp only[zz];try omega;done) only[↓reduceIte,go_sem,e75]
        refine⟨i+1,?_,by omega⟩
        rw[hI]
        exact⟨by simp [kF,e0],by simp [kF,e2],by simp [kF,e3],by simp [kF,e6],by simp [kF,e73],by simp [kF,e74],by simp [kF],by omega,hfd',_,st.pZ,b.pZ,T.pZ,F.pZ,hs.mono (kG.qZ S0 u' h' _ _).ge⟩
      ·obtain rfl:i=11:=by omega
       have hbad:sV s j nH= .bad 10 j:=hfd
       rw[hbad]at hK
       simp(disch:=first|omega|simp only[zz];try omega;done) only[↓reduceIte,go_sem,e0,e6,e74,e75]
       refine kD (.inr (.inl ⟨rfl,u',_,10,j,rfl,λu4 h4 s4=>⟨kY,?_⟩⟩))
       have T4:=T.sZ s4
       have F4:=F.sZ s4
       obtain⟨r1,r2,r3,-⟩:=sW (la:=lM) (lb:=kT 10 j) (st.tZ s4) T4 F4 (by omega) (by omega) (by omega) rfl rfl
       have T41:=T4.1
       have F41:=F4.1
       simp only[lM,kT]at r1 r2 r3
       simp(disch:=first|omega|simp only[zz];try omega;done) only[↓reduceIte,go_sem,e2,e3,lM,kT,T4.2.1,T4.2.2.1,F4.2.1,F4.2.2.1,lu,lw,r2.at,r3.at,r2.2.1,r3.2.1]
       exact hK _ _ r1 (λt ht=>by cases ht)
end Go.Proofs.Z
namespace Edict
variable {o:Nat} {s:List UInt8} {c:Int} {p:Nat}
def Ct(go:Nat->Bool)(fl:Int×Nat):Nat->List Tok->Nat×Int×Nat
 |i,[]=>(i,fl)
 |i,_::r=>if go i then Ct go fl (i+1) r else(i+1,0,0)
theorem Bh{s:List UInt8}{o i:Nat}{acc:List UInt8}{c:Int}{p:Nat}(h:mU s o i acc= .bad c p):c≠0:=by
 unfold mU at h
 split at h
 ·split at h
  ·cases h
  ·split at h
   ·split at h
    ·cases h;decide
    ·split at h
     ·cases h;decide
     ·exact Bh h
   ·split at h
    ·cases h;decide
    ·exact Bh h
 ·cases h;decide
termination_by s.length - i
decreasing_by all_goals first|omega|(have:=tH s i;omega)
theorem Hy{b:Nat}(h:uk s o b= .bad c p):c≠0:=by
 unfold uk at h
 repeat' split at h
 all_goals first|(cases h;done)|(cases h;decide)
theorem Qk(h:rY s o= .bad c p):c≠0:=by
 unfold rY at h
 repeat' split at h
 all_goals first|(cases h;done)|(cases h;decide)
theorem EB{s:List UInt8}{o:Nat}{c:Int}{p:Nat}: ∀{l:List Sg},sV s o l= .bad c p->c≠0
 |[],h=>by cases h;decide
 |x::r,h=>by
  unfold sV at h
  split at h
  ·cases h
  ·exact EB h
end Edict
namespace Go.Ev
open Go
section
variable {h:H}
theorem TU{fn:Fn}{a b:Array Value}{neg:Bool}:v2 (.eqn .func neg) (.func fn a b) .nilFunc h= .bool neg:=by cases neg<;>simp [v2,uM]
theorem adK{fn:Fn}{a b:Array Value}{neg:Bool}:s2 (.eqn .func neg) (.func fn a b) .nilFunc h=True:=by simp [s2,uM]
theorem VX{neg:Bool}:v2 (.eqn .func neg) .nilFunc .nilFunc h= .bool (!neg):=by cases neg<;>simp [v2,uM]
theorem Ql{neg:Bool}:s2 (.eqn .func neg) .nilFunc .nilFunc h=True:=by simp [s2,uM]
end
end Go.Ev
namespace Go.Proofs.Z
open Go Go.Ev Edict
variable {s:List UInt8} {c:Int} {p:Nat} {Y:mG}
theorem TV{o:Nat}(h:wT s o= .bad c p):c≠0:=by
 unfold wT at h
 split at h
 ·cases h
 ·rename_i ho
  split at h
  ·exact Hy h
  ·split at h
   ·exact Hy h
   ·split at h
    ·exact Qk h
    ·split at h
     ·exact Bh h
     ·rw[Dj (by omega)]at h;exact EB h
theorem Qm{k:Nat}(h:oo s k= .bad c p):c≠0:=by
 unfold oo at h
 split at h
 ·exact TV h
 ·cases h;decide
def aa7(Y:mG)(vs:List Value)(h:H)(K:Value->H->Prop):Prop:= ∃(u:U) (s:List UInt8) (fv:Value) (go:Nat->Bool) (O:Nat->Prop) (Sl:Nat->(Nat->Prop)->U->H->Prop),vs=[str s,fv]/\s.length<=9223372036854775807/\Kg u h/\Sl 0 O u h/\
 (∀i O u1 h1,Sl i O u1 h1-> ∀b,O b->b<h1.size)/\
 (∀i O T u1 h1 u2 h2,Sl i O u1 h1->kG T u1 h1 u2 h2->(∀b,O b-> ¬T b)->Sl i O u2 h2)/\
 ((fv= .nilFunc/\(∀i,go i=true)/\ ∀i O u1 h1,Sl i O u1 h1->Sl (i+1) O u1 h1)\/ ∃g cap,fv= .func (.func g) #[] (List.toArray cap)/\
  ∀(i:Nat) (t:Tok) O u1 h1 Q QP,(lZ s).1[i]? =some t->Sl i O u1 h1->Kg u1 h1->(∀O2 u2 h2,kG O u1 h1 u2 h2->Sl (i+1) O2 u2 h2->(∀b,O2 b->O b\/h1.size<=b)->Q (.bool (go i)) h2)->Y g (.agg (lK t).toArray::cap) h1 Q QP)/\
 ∀u' h' O' m c o,kG O u h u' h'->Sl m O' u' h'->(∀b,O' b->O b\/h.size<=b)->Ct go (lZ s).2 0 (lZ s).1=(m,c,o)->K (.agg (kT c o).toArray) h'
def Qn(Y:mG):mG:=λf vs h K KP=>(f=118/\Ey Kg oo (λ_ _=>True) vs h K)\/Y f vs h K KP
theorem Qo(hY:nz Tryz.prog Y):nz Tryz.prog (Qn Y):=by
 rintro f vs h K KP (⟨rfl,hC⟩|hC)
 ·exact XN hC
 ·exact hY _ _ _ _ _ hC
theorem XZ(hY:nz Tryz.prog Y){vs:List Value}{h:H}{K:Value->H->Prop}{KP:List PanicEntry->H->Prop}(hC:aa7 Y vs h K):ma Tryz.prog 100 vs h K KP:=by
 obtain⟨u,s,fv,go,S,Sl,rfl,hmax,hG,hI0,hIlt,wH,hY2,hK⟩:=hC
 have hS:=hIlt 0 S u h hI0
 refine kP 36511417587 [((some (.c1 (.ldn 3) (.t 4))),(.o1 (.ldn 3) (.t 4)))] (G:=(Qn Y)) (Qo hY) Tryz.func100 (by kernel_rfl) (by conv=>lhs;cbv;try simp only[mF]) ?_
 by_cases hl:65536<s.length
 ·have hsc:lZ s=([],1,0):=by unfold lZ;rw[ay hl]
  rw[hsc]at hK
  simp(disch:=first|omega|simp only[zz];try omega;done) only[↓reduceIte,go_sem,af (show(65536:Int)<(s.length:Nat) by omega)]
  exact hK _ _ S 0 1 0 (kG.qZ S u h _ _) (wH 0 S S0 _ _ _ _ hI0 (kG.qZ _ u h _ _) (λ_ _ h=>h)) (λ_ h=> .inl h) rfl
 have hsc:lZ s=mo s 0:=by unfold lZ;rw[ah hl];rfl
 rw[hsc]at hK hY2
 have R1:=kV.new (u:=u) (h:=h) (kT 0 0) 44
 have R2:=R1.pZ (c:= #[str s,.int .i64 0]) (t:=224)
 have b2:=kV.new (u:=ub u h.size 0) (h:=h.push (.cells (kT 0 0).toArray 44)) [str s,.int .i64 ((0:Nat):Int)] 224
 have st2:=((kG.refl S u h).pZ (c:=(kT 0 0).toArray) (t:=44)).pZ (c:= #[str s,.int .i64 0]) (t:=224)
 have sf2:=((kG.refl S0 u h).pZ (c:=(kT 0 0).toArray) (t:=44)).pZ (c:= #[str s,.int .i64 0]) (t:=224)
 have hI2:=wH 0 S S0 _ _ _ _ hI0 sf2 (λ_ _ h=>h)
 simp only[yj,kT]at R2 b2 st2 hI2
 simp(disch:=first|omega|simp only[zz];try omega;done) only[↓reduceIte,go_sem,au (show¬(65536:Int)<(s.length:Nat) by omega)]
 obtain⟨I,hI⟩: ∃I:Nat×Nat->lm->H->Prop,I=λx σ h'=>σ 1=fv/\σ 4= .pointer (some ⟨h.size,0,none⟩)/\σ 5= .pointer (some ⟨h.size+1,0,none⟩)/\x.1<=s.length/\
   (∃oW,oW.length=x.2/\(mo s 0).1=oW++(mo s x.1).1)/\Ct go (mo s 0).2 0 (mo s 0).1=Ct go (mo s x.1).2 x.2 (mo s x.1).1/\
   ∃u' O,kG S u h u' h'/\Mw u' h' (h.size+1) s x.1/\kV u' h' h.size (kT 0 0)/\Sl x.2 O u' h'/\(∀b,O b->S b\/h.size+2<=b):=⟨_,rfl⟩
 refine kH I (λx=>s.length - x.1) (0,0) (by
  rw[hI]
  exact⟨by simp [kF],by simp [kF],by simp [kF],by simp,⟨[],rfl,rfl⟩,rfl,_,S,st2,b2,R2,hI2,λ_ h=> .inl h⟩) ?_
 clear R1 R2 b2 st2 sf2 hI2
 rintro ⟨k,i⟩ σ h1 hy
 rw[hI]at hy
 obtain⟨e1,e4,e5,hk,⟨oW,hpl,hpre⟩,hef,u1,O,st,b,R,hInv,hO⟩:=hy
 simp only at hk hpl hpre hef b hInv
 have b01:=b.1;have R01:=R.1
 have hG1:=hG.mono st.ge
 have hOn: ∀b,O b->b≠h.size/\b≠h.size+1:=λb hb=>by
  rcases hO b hb with q|q
  ·have:=hS b q;omega
  ·omega
 simp(disch:=first|omega|simp only[zz];try omega;done) only[↓reduceIte,go_sem,e5]
 refine kD (.inl ⟨rfl,u1,_,s,k,rfl,b,hk,by omega,trivial,hG1,λu3 h3 s3 hr3=> ?_⟩)
 have hI3:=wH i O _ _ _ _ _ hInv s3 (λb hb hq=>(hOn b hb).2 hq)
 have R3:=R.step s3 (by omega)
 have st3:=st.trans s3 (λq _ h=>by omega)
 have hlt3:=hIlt i O _ _ hI3
 have R31:=R3.1
 have R32:=R3.2.1
 simp only[kT,aM,bg]at R32
 -- the result's block is written, and all is over
 have fin: ∀(u4:U) (h4:H) (O4:Nat->Prop) (m:Nat) (c:Int) (o:Nat) (oi:Int),oi=(o:Int)->kG S u h u4 h4->kV u4 h4 h.size (kT 0 0)->Sl m O4 u4 h4->(∀b,O4 b->S b\/h.size+2<=b)->Ct go (mo s 0).2 0 (mo s 0).1=(m,c,o)->
   (kU h4 h.size 0 (kT c oi)).size=h4.size/\kV u4 (kU h4 h.size 0 (kT c oi)) h.size (kT c oi)/\ ∀u5 h5,kG S0 u4 (kU h4 h.size 0 (kT c oi)) u5 h5->K (.agg (kT c oi).toArray) h5:=by
  intro u4 h4 O4 m c o oi ho q1 q2 q3 q5 q4
  subst ho
  have w1:=q1.rZ (b:=h.size) (o:=0) (l:=kT c o) (.inl (aH _)) (by rw[q2.2.2.2.1];exact az _) (by rw[q2.2.1];exact aH _)
  have w2:=kG.sets (S:=λb=>b=h.size) u4 h4 (b:=h.size) (o:=0) (kT c o) rfl (by rw[q2.2.2.2.1];exact az _) (by rw[q2.2.1];exact aH _)
  have hq: ∀b,O4 b-> ¬b=h.size:=λb hb e=>by
   rcases q5 b hb with q|q
   ·have:=hS b q;omega
   ·omega
  exact⟨mX _ _ _ _,q2.sets rfl,λu5 h5 s5=>hK _ _ O4 m c o (w1.tZ s5) (wH m O4 _ _ _ _ _ q3 (w2.tZ s5) hq) (λb hb=>(q5 b hb).imp id λq=>by omega) q4⟩
 cases hn:oo s k with
 |bad c o=>
  have hc:=Qm hn
  rw[Dm hn]at hef
  obtain⟨f0,f1,f2⟩:=fin _ _ O i c o o rfl st3 R3 hI3 hO hef
  refine⟨kY,?_⟩
  simp only[Dl,lM,kT]
  simp only[kT]at f0 f1 f2
  have f11:=f1.1
  simp(disch:=first|omega|simp only[zz];try omega;done) only[↓reduceIte,go_sem,e4,au (show¬c=0 from hc),R32,R3.2.2.1,f1.at,f1.2.1]
  exact f2 _ _ (by repeat (first|exact kG.refl _ _ _|assumption|apply kG.pZ))
 |ok t=>
  obtain⟨tc,tv,tn,tp,to,te,rfl,q1,q2,q3,q4⟩:=xO hk hn
  obtain⟨t,ht⟩:=kJ (α:=Tok) ((tc,tv,tn,tp,(to:Int),(te:Int)))
  have b3:=hr3 _ hn
  simp only[eT]at b3
  have hsk:mo s k=(t::(if tc=0 then []else(mo s te).1),if tc=0 then(0,0)else(mo s te).2):=by
   by_cases h0:tc=0
   ·rw[Dn hn h0,ay h0,ay h0,ht]
   ·rw[GK hk hn h0,ah h0,ah h0,ht];rfl
  have hti:(mo s 0).1[i]? =some t:=by rw[hpre,hsk,<-hpl];simp
  rw[hsk]at hef
  have hef2:Ct go (mo s 0).2 0 (mo s 0).1=if go i then Ct go (if tc=0 then(0,0)else(mo s te).2) (i+1) (if tc=0 then []else(mo s te).1)else(i+1,0,0):=hef
  have T4:=(kV.new (u:=u3) (h:=h3) (lK t) 177).pZ (c:=(kT 0 0).toArray) (t:=44)
  have R4:=(R3.pZ (c:=(lK t).toArray) (t:=177)).pZ (c:=(kT 0 0).toArray) (t:=44)
  have b4:=(b3.pZ (c:=(lK t).toArray) (t:=177)).pZ (c:=(kT 0 0).toArray) (t:=44)
  have st4:=(st3.pZ (c:=(lK t).toArray) (t:=177)).pZ (c:=(kT 0 0).toArray) (t:=44)
  have sp4:=((kG.refl S0 u3 h3).pZ (c:=(lK t).toArray) (t:=177)).pZ (c:=(kT 0 0).toArray) (t:=44)
  have hI4:=wH i O _ _ _ _ _ hI3 sp4 (λ_ _ h=>h)
  refine⟨kY,?_⟩
  obtain⟨h4,hh4⟩:=kJ ((h3.push (.cells (lK t).toArray 177)).push (.cells (kT 0 0).toArray 44))
  have hs4:h4.size=h3.size+2:=by rw[hh4];simp
  obtain⟨u4,hu4⟩:=kJ (ub (ub u3 h3.size 0) (h3.size+1) 0)
  simp only[yj]at T4 R4 b4 st4 sp4 hI4
  rw[<-hh4,<-hu4]at T4 R4 b4 st4 sp4 hI4
  have G4:=hG.mono st4.ge
  -- behind the yield
  have tail: ∀(σ':lm) (O5:Nat->Prop) (u5:U) (h5:H),σ' 1=fv->σ' 4= .pointer (some ⟨h.size,0,none⟩)->σ' 5= .pointer (some ⟨h.size+1,0,none⟩)->σ' 6= .pointer (some ⟨h3.size,0,none⟩)->kG O u4 h4 u5 h5->Sl (i+1) O5 u5 h5->(∀b,O5 b->O b\/h4.size<=b)->
    kV u5 h5 h3.size (lK t)/\Mw u5 h5 (h.size+1) s te/\kV u5 h5 h.size (kT 0 0)/\kG S u h u5 h5/\(∀b,O5 b->S b\/h.size+2<=b):=by
   intro σ' O5 u5 h5 w1 w4 w5 w6 s5 i5 o5
   have hn3: ∀b,O b->b<h3.size:=hlt3
   refine⟨T4.step s5 (λhq=>by have:=hn3 _ hq;omega),b4.step s5 (λhq=>(hOn _ hq).2 rfl),R4.step s5 (λhq=>(hOn _ hq).1 rfl),st4.trans s5 (λb hb hq=> ?_),λb hb=> ?_⟩
   ·rcases hO b hq with q|q
    ·exact q
    ·omega
   ·rcases o5 b hb with q|q
    ·exact hO b q
    ·have:=st3.ge.sz;omega
  simp only[Dl,lK,kT]at hh4 ⊢
  simp only[ht]at hh4 ⊢
  simp(disch:=first|omega|simp only[zz];try omega;done) only[↓reduceIte,go_sem,e1,e4]
  rw[<-hh4]
  subst ht
  rcases hY2 with⟨rfl,hgoT,hIn⟩|⟨g,cap,rfl,hYY⟩
  ·have hgo:=hgoT i
   have i5:=hIn i O _ _ hI3
   have i6:=hIn i O _ _ hI4
   subst hh4
   by_cases h0:tc=0
   ·rw[ay hgo,ay h0,ay h0]at hef2
    obtain⟨f0,f1,f2⟩:=fin _ _ O (i+1) 0 0 0 rfl st3 R3 i5 hO hef2
    simp only[kT]at f0 f1 f2
    have f11:=f1.1
    simp(disch:=first|omega|simp only[zz];try omega;done) only[↓reduceIte,go_sem,VX,Ql,af h0,R3.2.2.1,f1.at,f1.2.1]
    exact f2 _ _ (by repeat (first|exact kG.refl _ _ _|assumption|apply kG.pZ))
   ·rw[ay hgo,ah h0,ah h0]at hef2
    have hlt:=q4 h0
    simp(disch:=first|omega|simp only[zz];try omega;done) only[↓reduceIte,go_sem,VX,Ql,au h0]
    refine⟨(te,i+1),?_,by simp only;omega⟩
    rw[hI]
    refine⟨by simp [kF,e1],by simp [kF,e4],by simp [kF,e5],q2,⟨oW++[(tc,tv,tn,tp,(to:Int),(te:Int))],by simp [hpl],?_⟩,hef2,u4,O,st4,b4,R4,i6,hO⟩
    rw[hpre,hsk,ah h0];simp
  ·simp(disch:=first|omega|simp only[zz];try omega;done) only[↓reduceIte,go_sem,TU,adK]
   refine cast (acw (first:=[]) (cap:=cap)).symm ?_
   refine .inr (hYY i _ O u4 h4 _ _ hti hI4 G4 λO5 u5 h5 s5 i5 o5'=>⟨kY,?_⟩)
   obtain⟨T5,b5,R5,st5,o5⟩:=tail (λn=>if n=1 then .func (.func g) #[] cap.toArray else if n=4 then .pointer (some ⟨h.size,0,none⟩)else if n=5 then .pointer (some ⟨h.size+1,0,none⟩)else .pointer (some ⟨h3.size,0,none⟩)) O5 u5 h5 rfl rfl rfl rfl s5 i5 o5'
   cases hgo:go i with
   |true=>
    simp(disch:=first|omega|simp only[zz];try omega;done) only[↓reduceIte,go_sem,e1,TU]
    have T01:=T5.1
    simp only[lK]at T5
    have R0:=R5.2.1
    have b05:=b5.1;have R05:=R5.1
    simp only[kT,aM,bg]at R0
    by_cases h0:tc=0
    ·rw[ay hgo,ay h0,ay h0]at hef2
     obtain⟨f0,f1,f2⟩:=fin _ _ O5 (i+1) 0 0 0 rfl st5 R5 i5 o5 hef2
     simp only[kT]at f0 f1 f2
     simp(disch:=first|omega|simp only[zz];try omega;done) only[↓reduceIte,go_sem,e4,T5.at,T5.2.1,af h0,R0,R5.2.2.1,f1.at,f1.2.1]
     exact f2 _ _ (.refl _ _ _)
    ·rw[ay hgo,ah h0,ah h0]at hef2
     have hlt:=q4 h0
     simp(disch:=first|omega|simp only[zz];try omega;done) only[↓reduceIte,go_sem,e4,T5.at,T5.2.1,au h0]
     refine⟨(te,i+1),?_,by simp only;omega⟩
     rw[hI]
     refine⟨by simp [kF,e1],by simp [kF,e4],by simp [kF,e5],q2,⟨oW++[(tc,tv,tn,tp,(to:Int),(te:Int))],by simp [hpl],?_⟩,hef2,u5,O5,st5,b5,R5,i5,o5⟩
     rw[hpre,hsk,ah h0];simp
   |false=>
    rw[ah (by rw[hgo];simp)]at hef2
    have R0:=R5.2.1
    have R05:=R5.1
    simp only[kT,aM,bg]at R0
    obtain⟨f0,f1,f2⟩:=fin _ _ O5 (i+1) 0 0 0 rfl st5 R5 i5 o5 hef2
    simp only[kT]at f0 f1 f2
    simp(disch:=first|omega|simp only[zz];try omega;done) only[↓reduceIte,go_sem,e1,e4,TU,R0,R5.2.2.1,f1.at,f1.2.1]
    exact f2 _ _ (.refl _ _ _)
end Go.Proofs.Z
namespace Edict
def Ag(s t:List UInt8)(a b n:Nat):Prop:=a+n<=s.length/\b+n<=t.length/\ ∀i,i<n->kS s (a+i)=kS t (b+i)
theorem Ag.sub{s t:List UInt8}{a b n:Nat}(h:Ag s t a b n){i m:Nat}(hm:i+m<=n):Ag s t (a+i) (b+i) m:=
 ⟨by have:=h.1;omega,by have:=h.2.1;omega,λj hj=>by have:=h.2.2 (i+j) (by omega);rwa [<-dY,<-dY]at this⟩
theorem FI{s:List UInt8}{i:Nat}(h:i<s.length):s[i]? =some (UInt8.ofNat (kS s i)):=by
 unfold kS
 rw[aO,aL h]
 simp
theorem VW{s t:List UInt8}{i j:Nat}(hn:(nU s i).2≠0)(h: ∀k,k<(nU s i).2->kS s (i+k)=kS t (j+k)):nU t j=nU s i:=by
 have hl:=tH s i
 have h1:kS t (j+1)=kS s (i+1):=(h 1 (by omega)).symm
 by_cases q:kS s (i+1)=120
 ·have q1:(nU s i).2=4:=by
   unfold nU at hn ⊢
   rw[ah (by omega),ah (by omega),ah (by omega),ah (by omega),ah (by omega),ay q]at hn ⊢
   split at hn<;>simp_all
  have h2:kS t (j+2)=kS s (i+2):=(h 2 (by omega)).symm
  have h3:kS t (j+3)=kS s (i+3):=(h 3 (by omega)).symm
  unfold nU
  rw[h1,h2,h3]
 ·unfold nU
  rw[h1]
  simp only[ah q]
theorem MP{s t:List UInt8}{o p:Nat}{i j:Nat}{acc v:List UInt8}{e:Nat}(h:mU s o i acc= .ok (4,v,0,0,(o:Int),(e:Int)))(ha:Ag s t i j (e - i)):mU t p j acc= .ok (4,v,0,0,(p:Int),((j+(e - i):Nat):Int)):=by
 obtain⟨e',v',h1,h2,h3⟩:=yP h
 have he:e'=e:=by
  simp only[bS,dN]at h1
  have:=h1.2;omega
 subst he
 have hil:i<s.length:=by omega
 have hjl:j<t.length:=by have:=ha.2.1;omega
 have h0:kS t j=kS s i:=by have:=ha.2.2 0 (by omega);simpa using this.symm
 by_cases h32:32<=kS s i
 case neg=>rw[mU,ah (λq=>h32 q.2)]at h;cases h
 by_cases h34:kS s i=34
 ·rw[mU,ay ⟨hil,h32⟩,ay h34]at h
  simp only[TR.ok.injEq,bS,dN]at h
  obtain⟨rfl,h⟩:=h
  have:e'=i+1:=by omega
  subst this
  rw[mU,ay ⟨hjl,by omega⟩,ay (by omega)]
  rw[show i+1 - i=1 by omega]
 by_cases h92:kS s i=92
 ·rw[mU,ay ⟨hil,h32⟩,ah h34,ay h92]at h
  split at h
  ·cases h
  rename_i hn0
  split at h
  ·cases h
  rename_i hl
  obtain⟨e2,v2,k1,k2,k3⟩:=yP h
  have he2:e2=e':=by
   simp only[bS,dN]at k1
   have:=k1.2;omega
  subst he2
  have hesc:=VW (t:=t) (j:=j) hn0 (λk hk=>ha.2.2 k (by omega))
  have ih:=MP (p:=p) (j:=j+(nU s i).2) h (by
   have:=ha.sub (i:=(nU s i).2) (m:=e2 - (i+(nU s i).2)) (by omega)
   exact this)
  rw[mU,ay ⟨hjl,by omega⟩,ah (by omega),ay (by omega),hesc,ah hn0,ah hl,ih]
  congr 6
  omega
 ·rw[mU,ay ⟨hil,h32⟩,ah h34,ah h92]at h
  split at h
  ·cases h
  rename_i hl
  obtain⟨e2,v2,k1,k2,k3⟩:=yP h
  have he2:e2=e':=by
   simp only[bS,dN]at k1
   have:=k1.2;omega
  subst he2
  have ih:=MP (p:=p) (j:=j+1) h (by
   have:=ha.sub (i:=1) (m:=e2 - (i+1)) (by omega)
   exact this)
  rw[mU,ay ⟨hjl,by omega⟩,ah (by omega),ah (by omega),ah hl,h0,ih]
  congr 6
  omega
termination_by s.length - i
decreasing_by all_goals first|omega|(have:=tH s i;omega)
variable {o:Nat} {c:Int} {p k:Nat} {s:List UInt8}
def adI(n:Nat):Tok:=(0,[],0,0,n,n)
def aew(l:List Tok)(n:Nat):Prop:= ∃r,l=r++[adI n]/\ ∀t∈r,t.1≠0
theorem Cb{s:List UInt8}{o i:Nat}{acc:List UInt8}{c:Int}{p:Nat}(h:mU s o i acc= .bad c p):(c=11/\p=o)\/(c=15/\p=o)\/(c=12/\i<=p/\p<s.length):=by
 rw[mU]at h
 split at h
 ·rename_i q
  split at h
  ·cases h
  ·split at h
   ·split at h
    ·cases h;exact .inr (.inr ⟨rfl,aH _,q.1⟩)
    ·split at h
     ·cases h;exact .inr (.inl ⟨rfl,rfl⟩)
     ·rename_i hn _
      rcases Cb h with k|k|k
      ·exact .inl k
      ·exact .inr (.inl k)
      ·exact .inr (.inr ⟨k.1,by omega,k.2.2⟩)
   ·split at h
    ·cases h;exact .inr (.inl ⟨rfl,rfl⟩)
    ·rcases Cb h with k|k|k
     ·exact .inl k
     ·exact .inr (.inl k)
     ·exact .inr (.inr ⟨k.1,by omega,k.2.2⟩)
 ·cases h;exact .inl ⟨rfl,rfl⟩
termination_by s.length - i
decreasing_by
 ·have:=tH s i;omega
 ·omega
theorem adJ{q:Prop} [Decidable q]{k op:Int}{n:Nat}{x:TR}(h:(if q then MC k op o n else x)= .bad c p):x= .bad c p:=by
 split at h
 ·cases h
 ·exact h
theorem aa5(h:wS s o= .bad c p):c=10/\p=o:=by
 unfold wS at h
 iterate 11 (replace h:=adJ h)
 cases h
 exact⟨rfl,rfl⟩
theorem zV{s:List UInt8}{k p:Nat}(h:nK s k=(p,false)):p<s.length:=by
 by_cases hk:k<s.length
 case neg=>rw[MG (by omega)]at h;cases h
 by_cases hb:Ch (kS s k)=true
 ·rw[TE hk hb]at h;exact zV h
 by_cases h37:kS s k=37
 ·rw[GN hk h37]at h;exact zV h
 by_cases hp:pr s k 47 42=true
 ·cases hbk:blk s 1 (k+2)with
  |none=>rw[GR hp hbk]at h;cases h;exact hk
  |some x=>rw[GQ hp hbk]at h;exact zV h
 ·rw[GU (by simpa using hb) h37 (by simpa using hp)]at h;cases h
termination_by s.length - k
decreasing_by
 ·omega
 ·have:=ul s (k+1);omega
 ·have:=xQ s _ _ _ hbk;omega
theorem VV(h:wT s o= .bad c p):o<s.length/\c≠0/\c≠16/\c≠1/\(c≠12->p=o)/\(c=12->o<p/\p<s.length/\kS s o=34/\mU s o (o+1) []= .bad 12 p):=by
 have ho:o<s.length:=eY λq=>by rw[wT,ay q]at h;cases h
 refine⟨ho,?_⟩
 rw[wT,ah (by omega)]at h
 have hi: ∀b,uk s o b= .bad c p->c=13/\p=o:=λb hb=>by
  unfold uk at hb
  repeat' split at hb
  all_goals first|(cases hb;done)|(cases hb;exact⟨rfl,rfl⟩)
 by_cases hd:qB (kS s o)=true
 ·rw[ay hd]at h;obtain⟨rfl,rfl⟩:=hi _ h;exact⟨by decide,by decide,by decide,λ_=>rfl,λq=>absurd q (by decide)⟩
 rw[ah hd]at h
 by_cases hm:kS s o=45/\qB (kS s (o+1))=true
 ·rw[ay hm]at h;obtain⟨rfl,rfl⟩:=hi _ h;exact⟨by decide,by decide,by decide,λ_=>rfl,λq=>absurd q (by decide)⟩
 rw[ah hm]at h
 by_cases hw:uJ (kS s o)=true
 ·rw[ay hw]at h
  have:c=14/\p=o:=by
   unfold rY at h
   repeat' split at h
   all_goals first|(cases h;done)|(cases h;exact⟨rfl,rfl⟩)
  obtain⟨rfl,rfl⟩:=this
  exact⟨by decide,by decide,by decide,λ_=>rfl,λq=>absurd q (by decide)⟩
 rw[ah hw]at h
 by_cases h34:kS s o=34
 ·rw[ay h34]at h
  rcases Cb h with⟨rfl,rfl⟩|⟨rfl,rfl⟩|⟨rfl,k1,k2⟩
  ·exact⟨by decide,by decide,by decide,λ_=>rfl,λq=>absurd q (by decide)⟩
  ·exact⟨by decide,by decide,by decide,λ_=>rfl,λq=>absurd q (by decide)⟩
  ·exact⟨by decide,by decide,by decide,λq=>absurd rfl q,λ_=>⟨by omega,k2,h34,h⟩⟩
 rw[ah h34]at h
 have:=aa5 h
 obtain⟨rfl,rfl⟩:=this
 exact⟨by decide,by decide,by decide,λ_=>rfl,λq=>absurd q (by decide)⟩
theorem aa6(hk:k<=s.length)(h:oo s k= .bad c p):c≠0/\c≠1/\k<=p/\p<s.length/\(c=16->nK s k=(p,false))/\(c≠16->c≠12->nK s k=(p,true))/\(c=12-> ∃g,nK s k=(g,true)/\g<p/\kS s g=34/\mU s g (g+1) []= .bad 12 p):=by
 have hge:=GI (s:=s) (k:=k)
 have hle:=yQ hk
 unfold oo at h
 cases hg:nK s k with
 |mk g b=>
  rw[hg]at h hge hle
  simp only at h hge hle
  cases b with
  |true=>
   simp only[dx]at h
   obtain⟨h1,h2,h3,h4,h5,h6⟩:=VV h
   by_cases hc:c=12
   ·obtain⟨k1,k2,k3,k4⟩:=h6 hc
    exact⟨h2,h4,by omega,k2,λq=>absurd q h3,λ_ q=>absurd hc q,λ_=>⟨g,rfl,k1,k3,k4⟩⟩
   ·obtain rfl:=h5 hc
    exact⟨h2,h4,hge,h1,λq=>absurd q h3,λ_ _=>rfl,λq=>absurd q hc⟩
  |false=>
   simp only[aV,bZ]at h
   cases h
   refine⟨by decide,by decide,hge,?_,λ_=>rfl,λq=>absurd rfl q,λq=>absurd q (by decide)⟩
   apply bR
   intro q
   have e:p=s.length:=by omega
   have:=zV hg
   omega
theorem Qj(h:mo s k=([],c,p)):oo s k= .bad c p:=by
 unfold mo yu at h
 cases hx:oo s k with
 |bad c' o'=>rw[hx]at h;cases h;rfl
 |ok t=>rw[hx]at h;simp only at h;split at h<;>cases h
theorem Dy{t:Tok}{l:List Tok}{f:Int×Nat}(hk:k<=s.length)(h:mo s k=(t::l,f)):oo s k= .ok t/\(t.1=0/\l=[]/\f=(0,0)\/t.1≠0/\mo s t.2.2.2.2.2.toNat=(l,f)):=by
 cases hx:oo s k with
 |bad c o=>rw[Dm hx]at h;cases h
 |ok t'=>
  by_cases h0:t'.1=0
  ·rw[Dn hx h0]at h;cases h;exact⟨rfl,.inl ⟨h0,rfl,rfl⟩⟩
  ·rw[GK hk hx h0]at h;cases h;exact⟨rfl,.inr ⟨h0,rfl⟩⟩
theorem Bg{s:List UInt8}: ∀{l:List Tok} {k:Nat} {c:Int} {p:Nat},k<=s.length->mo s k=(l,c,p)->(c≠0/\c≠1/\p<s.length/\ ∀t∈l,t.1≠0)\/(c=0/\p=0/\aew l s.length)
 |[],k,c,p,hk,h=>by
  obtain⟨h1,h2,h3,h4,-⟩:=aa6 hk (Qj h)
  exact .inl ⟨h1,h2,h4,λt ht=>by cases ht⟩
 |t::l,k,c,p,hk,h=>by
  obtain⟨h1,⟨h2,rfl,h3⟩|⟨h2,h3⟩⟩:=Dy hk h
  ·cases h3
   obtain⟨c,v,n,p,o,e,rfl,q1,q2,q3,q4⟩:=xO hk h1
   obtain⟨rfl,rfl,rfl,rfl,rfl⟩:=q3 h2
   simp only at h2
   subst h2
   exact .inr ⟨rfl,rfl,[],rfl,λt ht=>by cases ht⟩
  ·obtain⟨c',v,n,p',o,e,rfl,q1,q2,q3,q4⟩:=xO hk h1
   rcases Bg (k:=e) q2 h3 with⟨r1,r2,r3,r4⟩|⟨r1,r2,r,rfl,r4⟩
   ·exact .inl ⟨r1,r2,r3,λt ht=>by
     rcases bn.1 ht with rfl|ht
     ·exact h2
     ·exact r4 t ht⟩
   ·exact .inr ⟨r1,r2,_::r,rfl,λt ht=>by
     rcases bn.1 ht with rfl|ht
     ·exact h2
     ·exact r4 t ht⟩
end Edict
namespace Edict
abbrev ll:=Int×Int×List UInt8×Int
abbrev lH:=List UInt8×List ll×Int
abbrev lV:=Int×lH×Int×ll×ll×Int
abbrev kX:=lH×List lV
abbrev nI:=Int×Int
def tK(t:Tok):Int:=t.1
def tX(t:Tok):List UInt8:=t.2.1
def tI(t:Tok):Int:=t.2.2.1
def tP(t:Tok):Int:=t.2.2.2.1
def tO(t:Tok):Int:=t.2.2.2.2.1
def pO(k:Int)(vars:Bool):Bool:=decide (k=1) || decide (k=3) || decide (k=4) || (decide (k=2) && vars)
def vT(c:Int)(t:Tok):nI:=(c,tO t)
def lF(t:Tok):nI:=(if tK t=0 then 21 else 20,tO t)
def lN(t:Tok):ll:=if tK t=3 then(1,tI t,[],tO t)else if tK t=1 then(2,0,tX t,tO t)else if tK t=4 then(3,0,tX t,tO t)else(4,0,tX t,tO t)
def lS:ll:=(0,0,[],0)
def og:lH:=([],[],0)
abbrev PR(α:Type):=Except nI (α×List Tok)
def qO(bad:nI)(vars:Bool)(acc:List ll):List Tok->PR (List ll)
 |[]=> .error bad
 |t::l=>if 8<=acc.length/\pO (tK t) vars=true then .error (vT 22 t)else if pO (tK t) vars=false then .error (lF t)else
  match l with
  |[]=> .error bad
  |c::r=>if tK c=7 then qO bad vars (acc++[lN t]) r else if tK c=6 then .ok (acc++[lN t],r)else .error (lF c)
theorem qG{bad:nI}{vars:Bool}{acc:List ll}{t:Tok}{l:List Tok}:qO bad vars acc (t::l)=if 8<=acc.length/\pO (tK t) vars=true then .error (vT 22 t)else if pO (tK t) vars=false then .error (lF t)else
  match l with
  |[]=> .error bad
  |c::r=>if tK c=7 then qO bad vars (acc++[lN t]) r else if tK c=6 then .ok (acc++[lN t],r)else .error (lF c):=by cases l<;>rw[qO]
def mP(bad:nI)(vars:Bool):List Tok->PR lH
 |[]=> .error bad
 |t::l=>if tK t≠1 then .error (lF t)else
  match l with
  |[]=> .error bad
  |p::r=>if tK p≠5 then .ok ((tX t,[],tO t),p::r)else
   match qO bad vars [] r with
   | .error e=> .error e
   | .ok (a,q)=> .ok ((tX t,a,tO t),q)
def wZ:List Tok->Bool
 |o::_=>decide (tK o=11)
 |[]=>false
def uT(bad:nI):List Tok->PR lV
 |[]=> .error bad
 |t::l=>if tK t=10 then
   (match mP bad true l with
   | .error e=> .error e
   | .ok (a,q)=> .ok ((2,a,0,lS,lS,tO t),q))
  else if tK t=1/\wZ l=false then
   (match mP bad true (t::l)with
   | .error e=> .error e
   | .ok (a,q)=> .ok ((1,a,0,lS,lS,tO t),q))
  else if pO (tK t) true=false then .error (lF t)else
   match l with
   |[]=> .error bad
   |o::r=>if tK o≠11 then .error (lF o)else
    match r with
    |[]=> .error bad
    |y::q=>if pO (tK y) true=false then .error (lF y)else .ok ((3,og,tP o,lN t,lN y,tO t),q)
theorem KC(bad:nI)(vars:Bool): ∀(l:List Tok) (acc a:List ll) (q:List Tok),qO bad vars acc l= .ok (a,q)->q.length<l.length
 |[],acc,a,q,h=>by unfold qO at h;cases h
 |[t],acc,a,q,h=>by
  unfold qO at h
  split at h
  ·cases h
  ·split at h<;>cases h
 |t::c::r,acc,a,q,h=>by
  unfold qO at h
  split at h
  ·cases h
  ·split at h
   ·cases h
   ·simp only at h
    split at h
    ·have:=KC bad vars r _ _ _ h
     simp only[aM];omega
    ·split at h
     ·cases h;simp only[aM];omega
     ·cases h
theorem xf{bad:nI}{vars:Bool}{l:List Tok}{a:lH}{q:List Tok}(h:mP bad vars l= .ok (a,q)):q.length<l.length:=by
 unfold mP at h
 split at h
 ·cases h
 ·rename_i t l
  split at h
  ·cases h
  ·split at h
   ·cases h
   ·split at h
    ·cases h;simp
    ·split at h
     ·cases h
     ·rename_i a' q' ha
      cases h
      have:=KC _ _ _ _ _ _ ha
      simp only[aM];omega
theorem yY{bad:nI}{l:List Tok}{x:lV}{q:List Tok}(h:uT bad l= .ok (x,q)):q.length<l.length:=by
 unfold uT at h
 split at h
 ·cases h
 ·rename_i t l
  split at h
  ·split at h
   ·cases h
   ·rename_i ha
    cases h
    have:=xf ha
    simp only[aM];omega
  ·split at h
   ·split at h
    ·cases h
    ·rename_i ha
     cases h
     exact xf ha
   ·split at h
    ·cases h
    ·split at h
     ·cases h
     ·split at h
      ·cases h
      ·split at h
       ·cases h
       ·split at h
        ·cases h
        ·cases h;simp only[aM];omega
def pI(bad:nI)(acc:List lV)(l:List Tok):PR (List lV):=
 match l with
 |[]=> .error bad
 |t::l'=>if 16<=acc.length/\(tK t=10\/pO (tK t) true=true)then .error (vT 23 t)else
  match h:uT bad (t::l')with
  | .error e=> .error e
  | .ok (_,[])=> .error bad
  | .ok (x,c::r)=>if tK c=7 then
    have:r.length<l'.length+1:=by have:=yY h;simp only[aM]at this;omega
    pI bad (acc++[x]) r
   else if tK c=8 then .ok (acc++[x],r)else .error (lF c)
termination_by l.length
theorem xg{bad:nI}{acc:List lV}:pI bad acc []= .error bad:=by rw[pI]
theorem xU{bad:nI}{acc:List lV}{t:Tok}{l:List Tok}(h:16<=acc.length/\(tK t=10\/pO (tK t) true=true)):pI bad acc (t::l)= .error (vT 23 t):=by rw[pI,ay h]
theorem vz{bad:nI}{acc:List lV}{t:Tok}{l:List Tok}{e:nI}(h: ¬(16<=acc.length/\(tK t=10\/pO (tK t) true=true)))(he:uT bad (t::l)= .error e):pI bad acc (t::l)= .error e:=by
 rw[pI,ah h]
 split
 ·rename_i e' h';rw[he]at h';cases h';rfl
 ·rename_i h';rw[he]at h';cases h'
 ·rename_i h';rw[he]at h';cases h'
theorem Dw{bad:nI}{acc:List lV}{t:Tok}{l:List Tok}{x:lV}{q:List Tok}(h: ¬(16<=acc.length/\(tK t=10\/pO (tK t) true=true)))(he:uT bad (t::l)= .ok (x,q)):
  pI bad acc (t::l)=match q with|[]=> .error bad|c::r=>if tK c=7 then pI bad (acc++[x]) r else if tK c=8 then .ok (acc++[x],r)else .error (lF c):=by
 rw[pI,ah h]
 split
 ·rename_i e' h';rw[he]at h';cases h'
 ·rename_i x' h';rw[he]at h';cases h';rfl
 ·rename_i x' c' r' h';rw[he]at h';cases h';rfl
theorem KD{bad:nI}: ∀{l:List Tok} {acc a:List lV} {q:List Tok},pI bad acc l= .ok (a,q)->q.length<l.length
 |[],acc,a,q,h=>by rw[xg]at h;cases h
 |t::l,acc,a,q,h=>by
  by_cases hf:16<=acc.length/\(tK t=10\/pO (tK t) true=true)
  ·rw[xU hf]at h;cases h
  ·cases he:uT bad (t::l)with
   |error e=>rw[vz hf he]at h;cases h
   |ok xq=>
    obtain⟨x,r⟩:=xq
    rw[Dw hf he]at h
    have hl:=yY he
    cases r with
    |nil=>cases h
    |cons c r=>
     simp only[aM]at hl ⊢
     simp only at h
     split at h
     ·have:=KD (l:=r) h
      omega
     ·split at h
      ·cases h;omega
      ·cases h
termination_by l=>l.length
decreasing_by simp only[aM]at*;omega
def nQ(bad:nI)(l:List Tok):PR kX:=
 match mP bad true l with
 | .error e=> .error e
 | .ok (a,q)=>
  match q with
  |[]=> .error bad
  |c::r=>if tK c=8 then .ok ((a,[]),r)else if tK c=9 then
    (match pI bad [] r with
    | .error e=> .error e
    | .ok (b,p)=> .ok ((a,b),p))
   else .error (lF c)
theorem vU{bad:nI}{l:List Tok}{x:kX}{q:List Tok}(h:nQ bad l= .ok (x,q)):q.length<l.length:=by
 unfold nQ at h
 split at h
 ·cases h
 ·rename_i a q' ha
  have h1:=xf ha
  split at h
  ·cases h
  ·rename_i c r
   simp only[aM]at h1
   split at h
   ·cases h;omega
   ·split at h
    ·split at h
     ·cases h
     ·rename_i hb
      cases h
      have:=KD hb
      omega
    ·cases h
def qV(bad:nI)(l:List Tok):PR lH:=
 match mP bad false l with
 | .error e=> .error e
 | .ok (a,q)=>
  match q with
  |[]=> .error bad
  |c::r=>if tK c=8 then .ok (a,r)else .error (lF c)
theorem Be{bad:nI}{l:List Tok}{x:lH}{q:List Tok}(h:qV bad l= .ok (x,q)):q.length<l.length:=by
 unfold qV at h
 split at h
 ·cases h
 ·rename_i a q' ha
  have h1:=xf ha
  split at h
  ·cases h
  ·rename_i c r
   simp only[aM]at h1
   split at h
   ·cases h;omega
   ·cases h
def Aq{α:Type}(bad:nI)(m:Nat)(one:List Tok->PR α)(hone: ∀l x q,one l= .ok (x,q)->q.length<l.length)(acc:List α)(l:List Tok):Except nI (List α):=
 match l with
 |[]=> .error bad
 |t::l'=>if tK t=0 then .ok acc else if m<=acc.length/\tK t=1 then .error (vT 24 t)else
  match h:one (t::l')with
  | .error e=> .error e
  | .ok (x,q)=>have:=hone _ _ _ h;Aq bad m one hone (acc++[x]) q
termination_by l.length
def oJ(bad:nI)(acc:List kX)(l:List Tok):Except nI (List kX):=Aq bad 512 (nQ bad) (λ_ _ _ h=>vU h) acc l
def mQ(bad:nI)(acc:List lH)(l:List Tok):Except nI (List lH):=Aq bad 4096 (qV bad) (λ_ _ _ h=>Be h) acc l
section
variable {α:Type} {bad:nI} {m:Nat} {one:List Tok->PR α} {hone: ∀l x q,one l= .ok (x,q)->q.length<l.length} {acc:List α} {t:Tok} {l:List Tok}
theorem Hr:Aq bad m one hone acc []= .error bad:=by rw[Aq]
theorem Ht(h:tK t=0):Aq bad m one hone acc (t::l)= .ok acc:=by rw[Aq,ay h]
theorem Dx(h0:tK t≠0)(h:m<=acc.length/\tK t=1):Aq bad m one hone acc (t::l)= .error (vT 24 t):=by rw[Aq,ah h0,ay h]
theorem Hu{e:nI}(h0:tK t≠0)(h: ¬(m<=acc.length/\tK t=1))(he:one (t::l)= .error e):Aq bad m one hone acc (t::l)= .error e:=by
 rw[Aq,ah h0,ah h]
 split
 ·rename_i e' h';rw[he]at h';cases h';rfl
 ·rename_i h';rw[he]at h';cases h'
theorem MO{x:α}{q:List Tok}(h0:tK t≠0)(h: ¬(m<=acc.length/\tK t=1))(he:one (t::l)= .ok (x,q)):Aq bad m one hone acc (t::l)=Aq bad m one hone (acc++[x]) q:=by
 rw[Aq,ah h0,ah h]
 split
 ·rename_i e' h';rw[he]at h';cases h'
 ·rename_i h';rw[he]at h';cases h';rfl
end
end Edict
namespace Edict
def Am(first:Int):Int:=if first=5 then 25 else 0
def lg(first s k:Int):Int:=
 if s=0 then(if k=1 then 1 else if k=0 then 26 else -1)
 else if s=1 then(if k=5 then 2 else if k=8 then 0 else if k=9 then 5 else -1)
 else if s=2 then(if pO k true=true then 3 else -1)
 else if s=3 then(if k=7 then 2 else if k=6 then 4 else -1)
 else if s=4 then(if k=8 then 0 else if k=9 then 5 else -1)
 else if s=5 then(if k=1 then 6 else if k=10 then 7 else if pO k true=true then 8 else -1)
 else if s=6 then(if k=11 then 11 else if k=5 then 9 else if k=7 then 5 else if k=8 then Am first else -1)
 else if s=7 then(if k=1 then 12 else -1)
 else if s=8 then(if k=11 then 11 else -1)
 else if s=9 then(if pO k true=true then 10 else -1)
 else if s=10 then(if k=7 then 9 else if k=6 then 13 else -1)
 else if s=11 then(if pO k true=true then 14 else -1)
 else if s=12 then(if k=5 then 9 else if k=7 then 5 else if k=8 then Am first else -1)
 else if s=13 then(if k=7 then 5 else if k=8 then Am first else -1)
 else if s=14 then(if k=7 then 5 else if k=8 then Am first else -1)
 else if s=15 then(if k=1 then 16 else if k=0 then 26 else -1)
 else if s=16 then(if k=5 then 17 else if k=8 then 15 else -1)
 else if s=17 then(if pO k false=true then 18 else -1)
 else if s=18 then(if k=7 then 17 else if k=6 then 19 else -1)
 else if s=19 then(if k=8 then 15 else -1)
 else if s=20 then(if k=1 then 21 else -1)
 else if s=21 then(if k=5 then 22 else if k=0 then 26 else -1)
 else if s=22 then(if pO k false=true then 23 else -1)
 else if s=23 then(if k=7 then 22 else if k=6 then 24 else -1)
 else if s=24 then(if k=0 then 26 else -1)
 else if s=25 then(if k=0 then 26 else -1)
 else -1
def yA(s k:Int)(c:Nat):Nat:=if(s=0\/s=15)/\k=1 then c+1 else c
def Ao(s k:Int)(l:Nat):Nat:=if k=9 then 0 else if s=5 then l+1 else l
def Bd(s k:Int)(t:Nat):Nat:=if k=5 then 0 else if s=2\/s=9\/s=17\/s=22 then t+1 else t
def xR(first:Int)(c:Nat):Bool:=(decide (first=0) && decide (512<c)) || (decide (first=15) && decide (4096<c))
def wY(first:Int)(c l t:Nat):Int:=if xR first c=true then 24 else if 16<l then 23 else if 8<t then 22 else 0
def mD(first:Int)(bad:nI):Int->Nat->Nat->Nat->List Tok->nI
 |_,_,_,_,[]=>bad
 |s,c,l,t,x::r=>if lg first s (tK x)= -1 then lF x else
   if wY first (yA s (tK x) c) (Ao s (tK x) l) (Bd s (tK x) t)≠0 then(wY first (yA s (tK x) c) (Ao s (tK x) l) (Bd s (tK x) t),tO x)else
   mD first bad (lg first s (tK x)) (yA s (tK x) c) (Ao s (tK x) l) (Bd s (tK x) t) r
def xS(d k:Int):Int:=if k=5 then d+1 else if k=6 then d - 1 else d
def qF(k:Int):Int->List Tok->List Tok->List (List Tok)
 |_,now,[]=>[now]
 |d,now,t::l=>if tK t=k/\xS d (tK t)=0 then now::qF k (xS d (tK t)) [] l else qF k (xS d (tK t)) (now++[t]) l
def sw(l:List Tok):List ll:=(l.filter λt=>pO (tK t) true).map lN
def Ay:List Tok->lH
 |[]=>og
 |t::l=>(tX t,sw l,tO t)
def XW:List Tok->lV
 |[]=>(0,og,0,lS,lS,0)
 |t::l=>if tK t=10 then(2,Ay l,0,lS,lS,tO t)else
  match l with
  |[o,y]=>if tK o=11 then(3,og,tP o,lN t,lN y,tO t)else(1,Ay (t::l),0,lS,lS,tO t)
  |_=>(1,Ay (t::l),0,lS,lS,tO t)
def MM(l:List Tok):List lV:=(qF 7 0 [] l).map XW
def Cm(s:List Tok):kX:=
 match qF 9 0 [] s with
 |[a,b]=>(Ay a,MM b)
 |a::_=>(Ay a,[])
 |[]=>(og,[])
def yX(l:List Tok):List (List Tok):=(qF 8 0 [] l).dropLast
theorem VT(k:Int): ∀(l:List Tok) (d:Int) (now:List Tok),qF k d now l≠[]
 |[],d,now=>by simp [qF]
 |t::l,d,now=>by
  rw[qF]
  split
  ·simp
  ·exact VT k l _ _
/-! ### Agreement -/
def nk(l:List Tok)(bad:nI):Prop:=(bad.1≠0/\ ∀t∈l,tK t≠0)\/(bad=(0,0)/\ ∃q e,l=q++[e]/\tK e=0/\ ∀t∈q,tK t≠0)
theorem nk.nil{bad:nI}(h:nk [] bad):bad.1≠0:=by
 rcases h with h|⟨_,q,e,h,_⟩
 ·exact h.1
 ·cases q<;>cases h
theorem nk.tail{t:Tok}{l:List Tok}{bad:nI}(h:nk (t::l) bad)(ht:tK t≠0):nk l bad:=by
 rcases h with h|⟨h0,q,e,h1,h2,h3⟩
 ·exact .inl ⟨h.1,λx hx=>h.2 x (dI _ hx)⟩
 ·cases q with
  |nil=>cases h1;exact absurd h2 ht
  |cons a q=>cases h1;exact .inr ⟨h0,q,e,rfl,h2,λx hx=>h3 x (dI _ hx)⟩
theorem nk.last{t:Tok}{l:List Tok}{bad:nI}(h:nk (t::l) bad)(ht:tK t=0):l=[]/\bad=(0,0):=by
 rcases h with h|⟨h0,q,e,h1,h2,h3⟩
 ·exact absurd ht (h.2 t (by simp))
 ·cases q with
  |nil=>cases h1;exact⟨rfl,h0⟩
  |cons a q=>cases h1;exact absurd ht (h3 t (by simp))
theorem oH(t:Tok):(lF t).1≠0:=by unfold lF;split<;>simp
section
variable {f:Int} {bad:nI} {s:Int} {c l t:Nat} {x:Tok} {r:List Tok}
theorem pE(h:lg f s (tK x)= -1):mD f bad s c l t (x::r)=lF x:=by rw[mD,ay h]
theorem Cn{e:Int}(h:lg f s (tK x)≠ -1)(ho:wY f (yA s (tK x) c) (Ao s (tK x) l) (Bd s (tK x) t)=e)(he:e≠0):mD f bad s c l t (x::r)=(e,tO x):=by
 rw[mD,ah h,ho,ay he]
theorem pG{n:Int}{c' l' t':Nat}(h:lg f s (tK x)=n)(hn:n≠ -1)(hc:yA s (tK x) c=c')(hl:Ao s (tK x) l=l')(ht:Bd s (tK x) t=t')(ho:wY f c' l' t'=0):
  mD f bad s c l t (x::r)=mD f bad n c' l' t' r:=by
 rw[mD,h,hc,hl,ht,ah hn,ah (by simp [ho])]
end
theorem qL{f:Int}{c l t:Nat}(h1:xR f c=false)(h2:l<=16)(h3:t<=8):wY f c l t=0:=by
 unfold wY;rw[ah (by simp [h1]),ah (by omega),ah (by omega)]
def uS(k:Int)(l:List Tok):Prop:= ∀now rest,qF k 0 now (l++rest)=qF k 0 (now++l) rest
theorem uS.app{k:Int}{a b:List Tok}(ha:uS k a)(hb:uS k b):uS k (a++b):=λnow rest=>by rw[bB,ha,hb,bB]
theorem uS.one{k:Int}{t:Tok}(h1:tK t≠k)(h5:tK t≠5)(h6:tK t≠6):uS k [t]:=λnow rest=>by
 show qF k 0 now (t::rest)=_
 rw[qF,ah (λq=>h1 q.1)]
 unfold xS
 rw[ah h5,ah h6]
theorem uS.all{k:Int}{a:List Tok}(ha:uS k a):qF k 0 [] a=[a]:=by
 have:=ha [] []
 rw[dU]at this
 rw[this];rfl
structure Qf (f S M E:Int) (vars:Bool):Prop where
 mS: ∀k,lg f S k=if pO k vars=true then M else -1
 mM: ∀k,lg f M k=if k=7 then S else if k=6 then E else -1
 sS:S=2\/S=9\/S=17\/S=22
 sM:M=3\/M=10\/M=18\/M=23
 sE:E≠ -1
theorem TS{f:Int}:Qf f 2 3 4 true:=⟨λk=>by simp [lg],λk=>by simp [lg],by simp,by simp,by decide⟩
theorem Kz{f:Int}:Qf f 9 10 13 true:=⟨λk=>by simp [lg],λk=>by simp [lg],by simp,by simp,by decide⟩
theorem TT{f:Int}:Qf f 17 18 19 false:=⟨λk=>by simp [lg],λk=>by simp [lg],by simp,by simp,by decide⟩
theorem Co{k:Int}{v:Bool}(h:pO k v=true):pO k true=true:=by
 cases v
 ·unfold pO at h ⊢;simp at h ⊢;omega
 ·exact h
theorem VU{k:Int}{v:Bool}(h:pO k v=true):k=1\/k=2\/k=3\/k=4:=by
 have:=Co h
 unfold pO at this;simp at this;omega
theorem Qg{f S M E:Int}{vars:Bool}(A:Qf f S M E vars){bad:nI}{c li:Nat}(hc:xR f c=false)(hli:li<=16): ∀(l:List Tok) (acc:List ll),acc.length<=8->nk l bad->
  (∀e,qO bad vars acc l= .error e->mD f bad S c li acc.length l=e/\e.1≠0)/\
  ∀a q,qO bad vars acc l= .ok (a,q)->nk q bad/\(∃te,te<=8/\mD f bad S c li acc.length l=mD f bad E c li te q)/\
   ∃oW,l=oW++q/\a=acc++sw oW/\ ∀k,k=7\/k=8\/k=9-> ∀now rest,qF k 1 now (oW++rest)=qF k 0 (now++oW) rest
 |[],acc,_,hg=>by
  unfold qO
  exact⟨λe h=>by cases h;exact⟨rfl,hg.nil⟩,λa q h=>by cases h⟩
 |t::l,acc,hacc,hg=>by
  have hsC: ∀k,yA S k c=c:=λk=>by unfold yA;rw[ah];rintro ⟨h|h,_⟩<;>(rcases A.sS with q|q|q|q<;>omega)
  have hsL: ∀k,k≠9->Ao S k li=li:=λk hk=>by unfold Ao;rw[ah hk,ah];rcases A.sS with q|q|q|q<;>omega
  have hsT: ∀k n,k≠5->Bd S k n=n+1:=λk n hk=>by unfold Bd;rw[ah hk,ay A.sS]
  have hmC: ∀k,yA M k c=c:=λk=>by unfold yA;rw[ah];rintro ⟨h|h,_⟩<;>(rcases A.sM with q|q|q|q<;>omega)
  have hmL: ∀k,k≠9->Ao M k li=li:=λk hk=>by unfold Ao;rw[ah hk,ah];rcases A.sM with q|q|q|q<;>omega
  have hmT: ∀k n,k≠5->Bd M k n=n:=λk n hk=>by unfold Bd;rw[ah hk,ah];rcases A.sM with q|q|q|q<;>omega
  have hM1:M≠ -1:=by rcases A.sM with q|q|q|q<;>omega
  have hS1:S≠ -1:=by rcases A.sS with q|q|q|q<;>omega
  rw[qG]
  by_cases hT:pO (tK t) vars=true
  ·have hk:=VU hT
   have mv:lg f S (tK t)=M:=by rw[A.mS,ay hT]
   by_cases hfull:8<=acc.length
   ·rw[ay ⟨hfull,hT⟩]
    refine⟨λe h=> ?_,λa q h=>by cases h⟩
    cases h
    refine⟨Cn (by rw[mv];exact hM1) ?_ (by decide),(show(22:Int)≠0 by decide)⟩
    rw[hsC,hsL _ (by omega),hsT _ _ (by omega)]
    unfold wY;rw[ah (by simp [hc]),ah (by omega),ay (by omega)]
   ·rw[ah (λq=>hfull q.1),ah (by simp [hT])]
    have hon:mD f bad S c li acc.length (t::l)=mD f bad M c li (acc.length+1) l:=pG mv hM1 (hsC _) (hsL _ (by omega)) (hsT _ _ (by omega)) (qL hc hli (by omega))
    have hgl:nk l bad:=hg.tail (by omega)
    rw[hon]
    cases l with
    |nil=>exact⟨λe h=>by cases h;exact⟨rfl,hgl.nil⟩,λa q h=>by cases h⟩
    |cons p r=>
     simp only
     have hlen:(acc++[lN t]).length=acc.length+1:=by simp
     have hdt: ∀d,xS d (tK t)=d:=λd=>by unfold xS;rw[ah (by omega),ah (by omega)]
     have hat:sw [t]=[lN t]:=by unfold sw;simp [Co hT]
     by_cases h7:tK p=7
     ·rw[ay h7]
      have hon2:mD f bad M c li (acc.length+1) (p::r)=mD f bad S c li (acc.length+1) r:=pG (by rw[A.mM,ay h7]) hS1 (hmC _) (hmL _ (by omega)) (hmT _ _ (by omega)) (qL hc hli (by omega))
      obtain⟨i1,i2⟩:=Qg A hc hli r (acc++[lN t]) (by omega) (hgl.tail (by omega))
      rw[hon2,<-hlen]
      refine⟨i1,λa q h=> ?_⟩
      obtain⟨j1,j2,oW,j3,j4,j5⟩:=i2 a q h
      refine⟨j1,j2,t::p::oW,by rw[j3];rfl,?_,λk hk' now rest=> ?_⟩
      ·rw[j4]
       have:sw (t::p::oW)=lN t::sw oW:=by
        unfold sw;simp [Co hT,show pO (tK p) true=false by rw[h7];rfl]
       rw[this];simp
      ·show qF k 1 now (t::p::(oW++rest))=_
       rw[qF,hdt,ah (λq=>absurd q.2 (by decide)),qF,ah (λq=>by have:=q.2;unfold xS at this;rw[ah (by omega),ah (by omega)]at this;exact absurd this (by decide))]
       unfold xS
       rw[ah (by omega),ah (by omega),j5 k hk']
       simp
     ·rw[ah h7]
      by_cases h6:tK p=6
      ·rw[ay h6]
       refine⟨λe h=>(by cases h),λa q h=> ?_⟩
       cases h
       refine⟨hgl.tail (by omega),⟨acc.length+1,by omega,pG (by rw[A.mM,ah h7,ay h6]) A.sE (hmC _) (hmL _ (by omega)) (hmT _ _ (by omega)) (qL hc hli (by omega))⟩,[t,p],rfl,?_,λk hk' now rest=> ?_⟩
       ·have:sw [t,p]=[lN t]:=by
         unfold sw;simp [Co hT,show pO (tK p) true=false by rw[h6];rfl]
        rw[this]
       ·show qF k 1 now (t::p::rest)=_
        rw[qF,hdt,ah (λq=>absurd q.2 (by decide)),qF,ah (λq=>by omega)]
        unfold xS
        rw[ah (by omega),ay h6]
        simp
      ·rw[ah h6]
       refine⟨λe h=> ?_,λa q h=>by cases h⟩
       cases h
       exact⟨pE (by rw[A.mM,ah h7,ah h6]),oH _⟩
  ·rw[ah (λq=>hT q.2),ay (by simpa using hT)]
   refine⟨λe h=> ?_,λa q h=>by cases h⟩
   cases h
   exact⟨pE (by rw[A.mS,ah hT]),oH _⟩
theorem Cq{bad:nI}{vars:Bool}{t p:Tok}{r:List Tok}(ht:tK t=1):mP bad vars (t::p::r)=if tK p≠5 then .ok ((tX t,[],tO t),p::r)else
   match qO bad vars [] r with
   | .error e=> .error e
   | .ok (a,q)=> .ok ((tX t,a,tO t),q):=by rw[mP,ah (by simp [ht])]<;>rfl
theorem zU{bad:nI}{vars:Bool}{t:Tok}(ht:tK t=1):mP bad vars [t]= .error bad:=by rw[mP,ah (by simp [ht])]
theorem ru{bad:nI}{vars:Bool}{t:Tok}{l:List Tok}(ht:tK t≠1):mP bad vars (t::l)= .error (lF t):=by cases l<;>rw[mP,ay ht]
theorem XX{t:Tok}{l:List Tok}(h:pO (tK t) true=false):sw (t::l)=sw l:=by unfold sw;simp [h]
theorem Cr {f N S M E:Int} {vars:Bool} (A:Qf f S M E vars) (hN:lg f N 5=S) (hN0:N=1\/N=6\/N=12\/N=16\/N=21) {bad:nI} {c li te:Nat} (hc:xR f c=false) (hli:li<=16) (hte:te<=8)
  {t:Tok} {l:List Tok} (ht:tK t=1) (hg:nk l bad):
  (∀e,mP bad vars (t::l)= .error e->mD f bad N c li te l=e/\e.1≠0)/\
  ∀a q,mP bad vars (t::l)= .ok (a,q)->nk q bad/\(∃te' X,te'<=8/\mD f bad N c li te l=mD f bad X c li te' q/\(X=E\/(X=N/\q=l/\ ∀p r,q=p::r->tK p≠5)))/\
   ∃oW,l=oW++q/\a=Ay (t::oW)/\(∀k,k=7\/k=8\/k=9->uS k (t::oW))/\(∀p r,oW=p::r->tK p=5):=by
 cases l with
 |nil=>
  rw[zU ht]
  exact⟨λe h=>by cases h;exact⟨rfl,hg.nil⟩,λa q h=>by cases h⟩
 |cons p r=>
  rw[Cq ht]
  by_cases h5:tK p=5
  ·rw[ah (by simp [h5])]
   have hS1:S≠ -1:=by rcases A.sS with q|q|q|q<;>omega
   have hon:mD f bad N c li te (p::r)=mD f bad S c li ([]:List ll).length r:=pG (by rw[h5,hN]) hS1 (by unfold yA;rw[ah (by rcases hN0 with q|q|q|q|q<;>omega)]) (by unfold Ao;rw[ah (by omega),ah (by rcases hN0 with q|q|q|q|q<;>omega)]) (by unfold Bd;rw[ay h5];rfl) (qL hc hli (by simp))
   obtain⟨i1,i2⟩:=Qg A hc hli r [] (by simp) (hg.tail (by omega))
   rw[hon]
   cases ha:qO bad vars [] r with
   |error e=>exact⟨λe' h=>by cases h;exact i1 e ha,λa q h=>by cases h⟩
   |ok aq=>
    obtain⟨a,q⟩:=aq
    refine⟨λe' h=>(by cases h),λa' q' h=> ?_⟩
    cases h
    obtain⟨j1,⟨te',j2,j2'⟩,oW,j3,j4,j5⟩:=i2 a q ha
    have h5t:pO (tK p) true=false:=by rw[h5];rfl
    refine⟨j1,⟨te',E,j2,j2',.inl rfl⟩,p::oW,by rw[j3];rfl,?_,λk hk now rest=> ?_,λp' r' h=>by cases h;exact h5⟩
    ·rw[j4]
     show(tX t,[]++sw oW,tO t)=(tX t,sw (p::oW),tO t)
     rw[XX h5t,bI]
    ·show qF k 0 now (t::p::(oW++rest))=_
     rw[qF,ah (λq=>by omega)]
     have hd:xS 0 (tK t)=0:=by unfold xS;rw[ah (by omega),ah (by omega)]
     have hd2:xS 0 (tK p)=1:=by unfold xS;rw[ay h5];rfl
     rw[hd,qF,ah (λq=>by omega),hd2,j5 k hk]
     simp
  ·rw[ay h5]
   refine⟨λe h=>(by cases h),λa q h=> ?_⟩
   cases h
   refine⟨hg,⟨te,N,hte,rfl,.inr ⟨rfl,rfl,λp' r' h=>by cases h;exact h5⟩⟩,[],rfl,?_,λk hk=>uS.one (by omega) (by omega) (by omega),λp' r' h=>by cases h⟩
   rfl
def afY(f X:Int)(q:List Tok):Prop:=(X=6\/X=12\/X=13\/X=14)/\ ∀p r,q=p::r->lg f X (tK p)=if tK p=7 then 5 else if tK p=8 then Am f else -1
theorem aa3{t:Tok}{oW:List Tok}(ht:tK t=1)(h: ∀p r,oW=p::r->tK p=5):XW (t::oW)=(1,Ay (t::oW),0,lS,lS,tO t):=by
 unfold XW
 simp only
 rw[ah (by omega)]
 split
 ·rename_i o y
  rw[ah (by have:=h _ _ rfl;omega)]
 ·rfl
def aa4(p:List Tok):Prop:= ∃t l,p=t::l/\(tK t=10->l≠[])
def Hm(s:List Tok):Prop:= ∃a rest,qF 9 0 [] s=a::rest/\a≠[]/\(rest=[]\/ ∃b,rest=[b]/\ ∀p∈qF 7 0 [] b,aa4 p)
theorem adH{f:Int}{bad:nI}{c li te:Nat}(hc:xR f c=false)(hli:li+1<=16)(hte:te<=8){t:Tok}{l:List Tok}(hg:nk (t::l) bad):
  (∀e,uT bad (t::l)= .error e->mD f bad 5 c li te (t::l)=e/\e.1≠0)/\
  ∀x q,uT bad (t::l)= .ok (x,q)->nk q bad/\(∃te' X,te'<=8/\mD f bad 5 c li te (t::l)=mD f bad X c (li+1) te' q/\afY f X q)/\
   ∃oW,t::l=oW++q/\x=XW oW/\aa4 oW/\ ∀k,k=7\/k=8\/k=9->uS k oW:=by
 have m5: ∀k,lg f 5 k=if k=1 then 6 else if k=10 then 7 else if pO k true=true then 8 else -1:=λk=>by simp [lg]
 have c5: ∀k,yA 5 k c=c:=λk=>by unfold yA;rw[ah (by omega)]
 have l5: ∀k,k≠9->Ao 5 k li=li+1:=λk hk=>by unfold Ao;rw[ah hk,ay rfl]
 have t5: ∀k,k≠5->Bd 5 k te=te:=λk hk=>by unfold Bd;rw[ah hk,ah (by omega)]
 have ho:=qL hc hli hte
 rw[uT.eq_def]
 simp only
 by_cases h10:tK t=10
 ·rw[ay h10]
  have hon:mD f bad 5 c li te (t::l)=mD f bad 7 c (li+1) te l:=pG (by rw[m5,ah (by omega),ay h10]) (by decide) (c5 _) (l5 _ (by omega)) (t5 _ (by omega)) ho
  have hgl:=hg.tail (by omega)
  rw[hon]
  cases l with
  |nil=>exact⟨λe h=>by rw[mP]at h;cases h;exact⟨rfl,hgl.nil⟩,λa q h=>by rw[mP]at h;cases h⟩
  |cons n r=>
   by_cases h1:tK n=1
   ·have hon2:mD f bad 7 c (li+1) te (n::r)=mD f bad 12 c (li+1) te r:=pG (by rw[h1];simp [lg]) (by decide) (by unfold yA;rw[ah (by omega)]) (by unfold Ao;rw[ah (by omega),ah (by omega)]) (by unfold Bd;rw[ah (by omega),ah (by omega)]) ho
    obtain⟨i1,i2⟩:=Cr (f:=f) (N:=12) Kz (by simp [lg]) (by simp) hc hli hte h1 (hgl.tail (by omega))
    rw[hon2]
    cases ha:mP bad true (n::r)with
    |error e=>exact⟨λe' h=>by cases h;exact i1 e ha,λa q h=>by cases h⟩
    |ok aq=>
     obtain⟨a,q⟩:=aq
     refine⟨λe' h=>(by cases h),λa' q' h=> ?_⟩
     cases h
     obtain⟨j1,⟨te',X,j2,j3,j4⟩,oW,j5,j6,j7,j8⟩:=i2 a q ha
     refine⟨j1,⟨te',X,j2,j3,?_⟩,t::n::oW,by rw[j5];rfl,?_,⟨t,n::oW,rfl,λ_=>by simp⟩,λk hk=>uS.app (a:=[t]) (uS.one (by omega) (by omega) (by omega)) (j7 k hk)⟩
     ·rcases j4 with rfl|⟨rfl,j4,j4'⟩
      ·exact⟨by simp,λp r' _=>by simp [lg]⟩
      ·exact⟨by simp,λp r' h=>by have:=j4' p r' h;simp [lg,this]⟩
     ·rw[j6];unfold XW;simp only[ay h10]
   ·rw[ru h1]
    refine⟨λe h=> ?_,λa q h=>by cases h⟩
    cases h
    exact⟨pE (by simp [lg,h1]),oH _⟩
 rw[ah h10]
 by_cases h1:tK t=1/\wZ l=false
 ·rw[ay h1]
  have hon:mD f bad 5 c li te (t::l)=mD f bad 6 c (li+1) te l:=pG (by rw[m5,ay h1.1]) (by decide) (c5 _) (l5 _ (by omega)) (t5 _ (by omega)) ho
  obtain⟨i1,i2⟩:=Cr (f:=f) (N:=6) Kz (by simp [lg]) (by simp) hc hli hte h1.1 (hg.tail (by omega))
  rw[hon]
  cases ha:mP bad true (t::l)with
  |error e=>exact⟨λe' h=>by cases h;exact i1 e ha,λa q h=>by cases h⟩
  |ok aq=>
   obtain⟨a,q⟩:=aq
   refine⟨λe' h=>(by cases h),λa' q' h=> ?_⟩
   cases h
   obtain⟨j1,⟨te',X,j2,j3,j4⟩,oW,j5,j6,j7,j8⟩:=i2 a q ha
   refine⟨j1,⟨te',X,j2,j3,?_⟩,t::oW,by rw[j5];rfl,by rw[aa3 h1.1 j8,j6],⟨t,oW,rfl,λq=>absurd q h10⟩,j7⟩
   rcases j4 with rfl|⟨rfl,j4,j4'⟩
   ·exact⟨by simp,λp r' _=>by simp [lg]⟩
   ·refine⟨by simp,λp r' h=> ?_⟩
    have h5:=j4' p r' h
    have h11:tK p≠11:=by
     have:=h1.2
     rw[<-j4,h]at this
     simpa [wZ]using this
    simp [lg,h5,h11]
 rw[ah h1]
 by_cases hT:pO (tK t) true=true
 ·rw[ah (by simp [hT])]
  have hk:=VU hT
  obtain⟨X1,hX1,hX6,hm1⟩: ∃X1,(X1=6\/X1=8)/\(X1=6->wZ l=true)/\lg f 5 (tK t)=X1:=by
   by_cases q:tK t=1
   ·refine⟨6,.inl rfl,λ_=> ?_,by rw[m5,ay q]⟩
    cases h:wZ l
    ·exact absurd ⟨q,h⟩ h1
    ·rfl
   ·exact⟨8,.inr rfl,λh=>absurd h (by decide),by rw[m5,ah q,ah h10,ay hT]⟩
  have hon:mD f bad 5 c li te (t::l)=mD f bad X1 c (li+1) te l:=pG hm1 (by omega) (c5 _) (l5 _ (by omega)) (t5 _ (by omega)) ho
  have hgl:=hg.tail (by omega)
  rw[hon]
  cases l with
  |nil=>exact⟨λe h=>by cases h;exact⟨rfl,hgl.nil⟩,λa q h=>by cases h⟩
  |cons o r=>
   simp only
   by_cases h11:tK o=11
   ·rw[ah (by simp [h11])]
    have hon2:mD f bad X1 c (li+1) te (o::r)=mD f bad 11 c (li+1) te r:=pG (by rw[h11];rcases hX1 with rfl|rfl<;>simp [lg]) (by decide) (by unfold yA;rw[ah (by omega)]) (by unfold Ao;rw[ah (by omega),ah (by omega)]) (by unfold Bd;rw[ah (by omega),ah (by omega)]) ho
    have hgr:=hgl.tail (by omega)
    rw[hon2]
    cases r with
    |nil=>exact⟨λe h=>by cases h;exact⟨rfl,hgr.nil⟩,λa q h=>by cases h⟩
    |cons y q=>
     simp only
     by_cases hy:pO (tK y) true=true
     ·rw[ah (by simp [hy])]
      refine⟨λe h=>(by cases h),λa q' h=> ?_⟩
      cases h
      have hky:=VU hy
      refine⟨hgr.tail (by omega),⟨te,14,hte,pG (by simp [lg,hy]) (by decide) (by unfold yA;rw[ah (by omega)]) (by unfold Ao;rw[ah (by omega),ah (by omega)]) (by unfold Bd;rw[ah (by omega),ah (by omega)]) ho,by simp,λp r' _=>by simp [lg]⟩,[t,o,y],rfl,?_,⟨t,[o,y],rfl,λ_=>by simp⟩,λk hk'=> ?_⟩
      ·unfold XW;simp only;rw[ah h10,ay h11]
      ·exact(uS.one (t:=t) (by omega) (by omega) (by omega)).app ((uS.one (t:=o) (by omega) (by omega) (by omega)).app (uS.one (t:=y) (by omega) (by omega) (by omega)))
     ·rw[ay (by simpa using hy)]
      refine⟨λe h=> ?_,λa q h=>by cases h⟩
      cases h
      exact⟨pE (by simp [lg,hy]),oH _⟩
   ·rw[ay h11]
    refine⟨λe h=> ?_,λa q h=>by cases h⟩
    cases h
    rcases hX1 with rfl|rfl
    ·have:=hX6 rfl
     simp [wZ,h11]at this
    ·exact⟨pE (by simp [lg,h11]),oH _⟩
 ·rw[ay (by simpa using hT)]
  refine⟨λe h=> ?_,λa q h=>by cases h⟩
  cases h
  refine⟨pE ?_,oH _⟩
  rw[m5,ah,ah h10,ah hT]
  intro q;rw[q]at hT;exact hT rfl
theorem Qh{f:Int}{bad:nI}{c:Nat}(hc:xR f c=false): ∀(l:List Tok) (acc:List lV) (te:Nat),acc.length<=16->te<=8->nk l bad->
  (∀e,pI bad acc l= .error e->mD f bad 5 c acc.length te l=e/\e.1≠0)/\
  ∀a q,pI bad acc l= .ok (a,q)->nk q bad/\(∃li' te',li'<=16/\te'<=8/\mD f bad 5 c acc.length te l=mD f bad (Am f) c li' te' q)/\
   ∃oW d,l=oW++d::q/\tK d=8/\a=acc++MM oW/\uS 8 oW/\uS 9 oW/\ ∀p∈qF 7 0 [] oW,aa4 p
 |[],acc,te,_,_,hg=>by
  rw[xg]
  exact⟨λe h=>by cases h;exact⟨rfl,hg.nil⟩,λa q h=>by cases h⟩
 |t::l,acc,te,hacc,hte,hg=>by
  by_cases hf:16<=acc.length/\(tK t=10\/pO (tK t) true=true)
  ·rw[xU hf]
   refine⟨λe h=> ?_,λa q h=>by cases h⟩
   cases h
   have hk:tK t=10\/tK t=1\/tK t=2\/tK t=3\/tK t=4:=hf.2.imp id VU
   refine⟨Cn (e:=23) ?_ ?_ (by decide),(show(23:Int)≠0 by decide)⟩
   ·rw[show lg f 5 (tK t)=if tK t=1 then 6 else if tK t=10 then 7 else if pO (tK t) true=true then 8 else -1 by simp [lg]]
    rcases hf.2 with q|q
    ·rw[ah (by omega),ay q];decide
    ·rw[ay q];split
     ·decide
     ·split<;>decide
   ·have h1:yA 5 (tK t) c=c:=by unfold yA;rw[ah (by omega)]
    have h2:Ao 5 (tK t) acc.length=acc.length+1:=by unfold Ao;rw[ah (by omega),ay rfl]
    rw[h1,h2];unfold wY;rw[ah (by simp [hc]),ay (by omega)]
  by_cases h16:16<=acc.length
  ·have hn:tK t≠10/\pO (tK t) true=false:=⟨λq=>hf ⟨h16,.inl q⟩,by cases h:pO (tK t) true;rfl;exact absurd ⟨h16,.inr h⟩ hf⟩
   have h1:tK t≠1:=λq=>by have:=hn.2;rw[q]at this;cases this
   have he:uT bad (t::l)= .error (lF t):=by rw[uT.eq_def];simp only;rw[ah hn.1,ah (λq=>h1 q.1),ay hn.2]
   rw[vz hf he]
   refine⟨λe h=> ?_,λa q h=>by cases h⟩
   cases h
   exact⟨pE (by simp [lg,hn.1,hn.2,h1]),oH _⟩
  obtain⟨i1,i2⟩:=adH (f:=f) (te:=te) hc (show acc.length+1<=16 by omega) hte hg
  cases he:uT bad (t::l)with
  |error e=>
   rw[vz hf he]
   exact⟨λe' h=>by cases h;exact i1 e he,λa q h=>by cases h⟩
  |ok xq=>
   obtain⟨x,q⟩:=xq
   rw[Dw hf he]
   obtain⟨j1,⟨te',X,j2,j3,jX,j4⟩,oW,j5,j6,jw,j7⟩:=i2 x q he
   rw[j3]
   have hqlen:=yY he
   cases q with
   |nil=>exact⟨λe h=>by cases h;exact⟨rfl,j1.nil⟩,λa q h=>by cases h⟩
   |cons p r=>
    simp only
    have hmv:=j4 p r rfl
    have hsC:yA X (tK p) c=c:=by unfold yA;rw[ah (by omega)]
    have hsL:tK p≠9->Ao X (tK p) (acc.length+1)=acc.length+1:=λh=>by unfold Ao;rw[ah h,ah (by omega)]
    have hsT:tK p≠5->Bd X (tK p) te'=te':=λh=>by unfold Bd;rw[ah h,ah (by omega)]
    have ho:=qL hc (show acc.length+1<=16 by omega) j2
    by_cases h7:tK p=7
    ·rw[ay h7]
     rw[ay h7]at hmv
     have hon:mD f bad X c (acc.length+1) te' (p::r)=mD f bad 5 c (acc++[x]).length te' r:=by
      rw[aN,bz]
      exact pG hmv (by decide) hsC (hsL (by omega)) (hsT (by omega)) ho
     rw[hon]
     obtain⟨k1,k2⟩:=Qh hc r (acc++[x]) te' (by rw[aN,bz];omega) j2 (j1.tail (by omega))
     refine⟨k1,λa q h=> ?_⟩
     obtain⟨m1,m2,pre',d,m3,m4,m5,m6,m7,m8⟩:=k2 a q h
     have hc7:qF 7 0 [] (oW++p::pre')=oW::qF 7 0 [] pre':=by
      have:xS 0 (tK p)=0:=by unfold xS;rw[ah (by omega),ah (by omega)]
      rw[j7 7 (by simp),bI,qF,ay ⟨h7,this⟩,this]
     refine⟨m1,m2,oW++p::pre',d,by rw[j5,m3];simp,m4,?_,?_,?_,?_⟩
     ·rw[m5,bB]
      congr 1
      unfold MM
      rw[hc7,j6];rfl
     ·exact(j7 8 (by simp)).app ((uS.one (t:=p) (by omega) (by omega) (by omega)).app m6)
     ·exact(j7 9 (by simp)).app ((uS.one (t:=p) (by omega) (by omega) (by omega)).app m7)
     ·intro z hz
      rw[hc7]at hz
      rcases bn.1 hz with rfl|hz
      ·exact jw
      ·exact m8 z hz
    ·rw[ah h7]
     rw[ah h7]at hmv
     by_cases h8:tK p=8
     ·rw[ay h8]
      rw[ay h8]at hmv
      refine⟨λe h=>(by cases h),λa q h=> ?_⟩
      cases h
      refine⟨j1.tail (by omega),⟨acc.length+1,te',by omega,j2,pG hmv (by unfold Am;split<;>decide) hsC (hsL (by omega)) (hsT (by omega)) ho⟩,oW,p,j5,h8,?_,j7 8 (by simp),j7 9 (by simp),λz hz=>by rw[(j7 7 (by simp)).all]at hz;rw[bJ.1 hz];exact jw⟩
      unfold MM
      rw[(j7 7 (by simp)).all,j6];rfl
     ·rw[ah h8]
      rw[ah h8]at hmv
      refine⟨λe h=> ?_,λa q h=>by cases h⟩
      cases h
      exact⟨pE hmv,oH _⟩
termination_by l=>l.length
decreasing_by simp only[aM]at*;omega
theorem Ho{bad:nI}{c li te:Nat}(hli:li<=16)(hte:te<=8){t:Tok}{l:List Tok}(h0:tK t≠0)(hc:c<512\/tK t≠1)(hg:nk (t::l) bad):
  (∀e,nQ bad (t::l)= .error e->mD 0 bad 0 c li te (t::l)=e/\e.1≠0)/\
  ∀x q,nQ bad (t::l)= .ok (x,q)->c<512/\nk q bad/\(∃li' te',li'<=16/\te'<=8/\mD 0 bad 0 c li te (t::l)=mD 0 bad 0 (c+1) li' te' q)/\ ∃oW d,t::l=oW++d::q/\tK d=8/\uS 8 oW/\x=Cm oW/\Hm oW:=by
 by_cases h1:tK t=1
 case neg=>
  have he:nQ bad (t::l)= .error (lF t):=by unfold nQ;rw[ru h1]
  rw[he]
  refine⟨λe h=> ?_,λa q h=>by cases h⟩
  cases h
  exact⟨pE (by simp [lg,h0,h1]),oH _⟩
 have hc5:c<512:=hc.resolve_right (λq=>q h1)
 have hcap:xR 0 (c+1)=false:=by unfold xR;simp;omega
 have hon:mD 0 bad 0 c li te (t::l)=mD 0 bad 1 (c+1) li te l:=pG (by simp [lg,h1]) (by decide) (by unfold yA;rw[ay ⟨.inl rfl,h1⟩]) (by unfold Ao;rw[ah (by omega),ah (by omega)]) (by unfold Bd;rw[ah (by omega),ah (by omega)]) (qL hcap hli hte)
 rw[hon]
 obtain⟨i1,i2⟩:=Cr (f:=0) (N:=1) (bad:=bad) TS (by simp [lg]) (by simp) hcap hli hte h1 (hg.tail h0)
 unfold nQ
 cases ha:mP bad true (t::l)with
 |error e=>exact⟨λe' h=>by cases h;exact i1 e ha,λa q h=>by cases h⟩
 |ok aq=>
  obtain⟨a,q⟩:=aq
  obtain⟨j1,⟨te',X,j2,j3,j4⟩,oW,j5,j6,j7,j8⟩:=i2 a q ha
  rw[j3]
  simp only
  cases q with
  |nil=>exact⟨λe h=>by cases h;exact⟨rfl,j1.nil⟩,λa q h=>by cases h⟩
  |cons p r=>
   simp only
   have hmv:lg 0 X (tK p)=if tK p=8 then 0 else if tK p=9 then 5 else -1:=by
    rcases j4 with rfl|⟨rfl,j4,j4'⟩
    ·simp [lg]
    ·have:=j4' p r rfl
     simp [lg,this]
   have hX:X=4\/X=1:=j4.imp id (λq=>q.1)
   have hsC:yA X (tK p) (c+1)=c+1:=by unfold yA;rw[ah (by omega)]
   have hsT:tK p≠5->Bd X (tK p) te'=te':=λh=>by unfold Bd;rw[ah h,ah (by omega)]
   by_cases h8:tK p=8
   ·rw[ay h8]
    rw[ay h8]at hmv
    refine⟨λe h=>(by cases h),λa q h=> ?_⟩
    cases h
    refine⟨hc5,j1.tail (by omega),⟨li,te',hli,j2,pG hmv (by decide) hsC (by unfold Ao;rw[ah (by omega),ah (by omega)]) (hsT (by omega)) (qL hcap hli j2)⟩,t::oW,p,by rw[j5];rfl,h8,j7 8 (by simp),?_,t::oW,[],(j7 9 (by simp)).all,by simp,.inl rfl⟩
    unfold Cm
    rw[(j7 9 (by simp)).all,j6]
   rw[ah h8]
   rw[ah h8]at hmv
   by_cases h9:tK p=9
   ·rw[ay h9]
    rw[ay h9]at hmv
    have hon2:mD 0 bad X (c+1) li te' (p::r)=mD 0 bad 5 (c+1) ([]:List lV).length te' r:=pG hmv (by decide) hsC (by unfold Ao;rw[ay h9];rfl) (hsT (by omega)) (qL hcap (by simp) j2)
    rw[hon2]
    obtain⟨k1,k2⟩:=Qh (f:=0) hcap r [] te' (by simp) j2 (j1.tail (by omega))
    cases hb:pI bad [] r with
    |error e=>exact⟨λe' h=>by cases h;exact k1 e hb,λa q h=>by cases h⟩
    |ok bp=>
     obtain⟨b,q⟩:=bp
     refine⟨λe h=>(by cases h),λx q' h=> ?_⟩
     cases h
     obtain⟨m1,m2,pre',d,m3,m4,m5,m6,m7,m8⟩:=k2 b q hb
     have hc9:qF 9 0 [] (t::oW++p::pre')=[t::oW,pre']:=by
      have:xS 0 (tK p)=0:=by unfold xS;rw[ah (by omega),ah (by omega)]
      rw[j7 9 (by simp),bI,qF,ay ⟨h9,this⟩,this,m7.all]
     refine⟨hc5,m1,m2,t::oW++p::pre',d,by rw[j5,m3];simp,m4,?_,?_,t::oW,[pre'],hc9,by simp,.inr ⟨pre',rfl,m8⟩⟩
     ·exact(j7 8 (by simp)).app ((uS.one (t:=p) (by omega) (by omega) (by omega)).app m6)
     ·unfold Cm
      rw[hc9,m5,j6];rfl
   ·rw[ah h9]
    rw[ah h9]at hmv
    refine⟨λe h=> ?_,λa q h=>by cases h⟩
    cases h
    exact⟨pE hmv,oH _⟩
theorem Qi{bad:nI}{c li te:Nat}(hli:li<=16)(hte:te<=8){t:Tok}{l:List Tok}(h0:tK t≠0)(hc:c<4096\/tK t≠1)(hg:nk (t::l) bad):
  (∀e,qV bad (t::l)= .error e->mD 15 bad 15 c li te (t::l)=e/\e.1≠0)/\
  ∀x q,qV bad (t::l)= .ok (x,q)->c<4096/\nk q bad/\(∃li' te',li'<=16/\te'<=8/\mD 15 bad 15 c li te (t::l)=mD 15 bad 15 (c+1) li' te' q)/\ ∃oW d,t::l=oW++d::q/\tK d=8/\uS 8 oW/\x=Ay oW/\oW≠[]:=by
 by_cases h1:tK t=1
 case neg=>
  have he:qV bad (t::l)= .error (lF t):=by unfold qV;rw[ru h1]
  rw[he]
  refine⟨λe h=> ?_,λa q h=>by cases h⟩
  cases h
  exact⟨pE (by simp [lg,h0,h1]),oH _⟩
 have hc5:c<4096:=hc.resolve_right (λq=>q h1)
 have hcap:xR 15 (c+1)=false:=by unfold xR;simp;omega
 have hon:mD 15 bad 15 c li te (t::l)=mD 15 bad 16 (c+1) li te l:=pG (by simp [lg,h1]) (by decide) (by unfold yA;rw[ay ⟨.inr rfl,h1⟩]) (by unfold Ao;rw[ah (by omega),ah (by omega)]) (by unfold Bd;rw[ah (by omega),ah (by omega)]) (qL hcap hli hte)
 rw[hon]
 obtain⟨i1,i2⟩:=Cr (f:=15) (N:=16) (bad:=bad) TT (by simp [lg]) (by simp) hcap hli hte h1 (hg.tail h0)
 unfold qV
 cases ha:mP bad false (t::l)with
 |error e=>exact⟨λe' h=>by cases h;exact i1 e ha,λa q h=>by cases h⟩
 |ok aq=>
  obtain⟨a,q⟩:=aq
  obtain⟨j1,⟨te',X,j2,j3,j4⟩,oW,j5,j6,j7,j8⟩:=i2 a q ha
  rw[j3]
  simp only
  cases q with
  |nil=>exact⟨λe h=>by cases h;exact⟨rfl,j1.nil⟩,λa q h=>by cases h⟩
  |cons p r=>
   simp only
   have hmv:lg 15 X (tK p)=if tK p=8 then 15 else -1:=by
    rcases j4 with rfl|⟨rfl,j4,j4'⟩
    ·simp [lg]
    ·have:=j4' p r rfl
     simp [lg,this]
   have hX:X=19\/X=16:=j4.imp id (λq=>q.1)
   by_cases h8:tK p=8
   ·rw[ay h8]
    rw[ay h8]at hmv
    refine⟨λe h=>(by cases h),λa q h=> ?_⟩
    cases h
    refine⟨hc5,j1.tail (by omega),⟨li,te',hli,j2,pG hmv (by decide) (by unfold yA;rw[ah (by omega)]) (by unfold Ao;rw[ah (by omega),ah (by omega)]) (by unfold Bd;rw[ah (by omega),ah (by omega)]) (qL hcap hli j2)⟩,t::oW,p,by rw[j5];rfl,h8,j7 8 (by simp),j6,by simp⟩
   ·rw[ah h8]
    rw[ah h8]at hmv
    refine⟨λe h=> ?_,λa q h=>by cases h⟩
    cases h
    exact⟨pE hmv,oH _⟩
theorem MN {α:Type} {f:Int} {bad:nI} {m:Nat} {one:List Tok->PR α} {hone: ∀l x q,one l= .ok (x,q)->q.length<l.length} {F:List Tok->α} {Gd:List Tok->Prop} (hf:(f=0/\m=512)\/(f=15/\m=4096))
  (H: ∀{c li te:Nat},li<=16->te<=8-> ∀{t:Tok} {l:List Tok},tK t≠0->(c<m\/tK t≠1)->nk (t::l) bad->
   (∀e,one (t::l)= .error e->mD f bad f c li te (t::l)=e/\e.1≠0)/\
   ∀x q,one (t::l)= .ok (x,q)->c<m/\nk q bad/\(∃li' te',li'<=16/\te'<=8/\mD f bad f c li te (t::l)=mD f bad f (c+1) li' te' q)/\ ∃oW d,t::l=oW++d::q/\tK d=8/\uS 8 oW/\x=F oW/\Gd oW):
  ∀(l:List Tok) (acc:List α) (li te:Nat),acc.length<=m->li<=16->te<=8->nk l bad->
   (∀e,Aq bad m one hone acc l= .error e->mD f bad f acc.length li te l=e/\e.1≠0)/\
   ∀a,Aq bad m one hone acc l= .ok a->mD f bad f acc.length li te l=(0,0)/\a=acc++(yX l).map F/\a.length<=m/\ ∀s∈yX l,Gd s
 |[],acc,li,te,_,_,_,hg=>by
  rw[Hr]
  exact⟨λe h=>by cases h;exact⟨rfl,hg.nil⟩,λa h=>by cases h⟩
 |t::l,acc,li,te,hacc,hli,hte,hg=>by
  by_cases h0:tK t=0
  ·rw[Ht h0]
   refine⟨λe h=>(by cases h),λa h=> ?_⟩
   cases h
   obtain⟨rfl,rfl⟩:=hg.last h0
   have hs:yX [t]=[]:=by
    unfold yX
    rw[qF,ah (λq=>by omega)]
    rfl
   rw[hs]
   refine⟨?_,by simp,hacc,λs hs=>by cases hs⟩
   have hcap:xR f acc.length=false:=by unfold xR;rcases hf with⟨rfl,rfl⟩|⟨rfl,rfl⟩<;>simp<;>omega
   rw[pG (n:=26) (c':=acc.length) (l':=li) (t':=te) (by rcases hf with⟨rfl,rfl⟩|⟨rfl,rfl⟩<;>simp [lg,h0]) (by decide) (by unfold yA;rw[ah (by omega)]) (by unfold Ao;rw[ah (by omega),ah (by omega)]) (by unfold Bd;rw[ah (by omega),ah (by omega)]) (qL hcap hli hte)]
   rfl
  by_cases hfull:m<=acc.length/\tK t=1
  ·rw[Dx h0 hfull]
   refine⟨λe h=> ?_,λa h=>by cases h⟩
   cases h
   refine⟨Cn (e:=24) (by rcases hf with⟨rfl,rfl⟩|⟨rfl,rfl⟩<;>simp [lg,hfull.2]) ?_ (by decide),(show(24:Int)≠0 by decide)⟩
   have:yA f (tK t) acc.length=acc.length+1:=by unfold yA;rw[ay ⟨by omega,hfull.2⟩]
   rw[this];unfold wY;rw[ay (by unfold xR;rcases hf with⟨rfl,rfl⟩|⟨rfl,rfl⟩<;>simp<;>omega)]
  have hcc:acc.length<m\/tK t≠1:=by
   by_cases q:m<=acc.length
   ·exact .inr (λh=>hfull ⟨q,h⟩)
   ·exact .inl (by omega)
  obtain⟨i1,i2⟩:=H (c:=acc.length) hli hte h0 hcc hg
  cases he:one (t::l)with
  |error e=>
   rw[Hu h0 hfull he]
   exact⟨λe' h=>by cases h;exact i1 e he,λa h=>by cases h⟩
  |ok xq=>
   obtain⟨x,q⟩:=xq
   obtain⟨j0,j1,⟨li',te',j2,j3,j4⟩,oW,d,j5,j6,j7,j8,jG⟩:=i2 x q he
   rw[MO h0 hfull he,j4]
   have hlen:(acc++[x]).length=acc.length+1:=by simp
   have hqlen:=hone _ _ _ he
   obtain⟨k1,k2⟩:=MN (hone:=hone) hf H q (acc++[x]) li' te' (by omega) j2 j3 j1
   rw[<-hlen]
   refine⟨k1,λa h=> ?_⟩
   obtain⟨m1,m2,m3,m4⟩:=k2 a h
   have hd:xS 0 (tK d)=0:=by unfold xS;rw[ah (by omega),ah (by omega)]
   have hne:qF 8 0 [] q≠[]:=VT _ _ _ _
   have hs:yX (t::l)=oW::yX q:=by
    unfold yX
    rw[j5,j7,bI,qF,ay ⟨j6,hd⟩,hd,List.dropLast_cons_of_ne_nil hne]
   rw[hs]
   refine⟨m1,by rw[m2,j8];simp,m3,λs hs'=> ?_⟩
   rcases bn.1 hs' with rfl|hs'
   ·exact jG
   ·exact m4 s hs'
termination_by l=>l.length
decreasing_by simp only[aM]at*;omega
theorem KA{bad:nI}{l:List Tok}(hg:nk l bad):(∀e,oJ bad [] l= .error e->mD 0 bad 0 0 0 0 l=e/\e.1≠0)/\ ∀a,oJ bad [] l= .ok a->mD 0 bad 0 0 0 0 l=(0,0)/\a=(yX l).map Cm/\a.length<=512/\ ∀s∈yX l,Hm s:=by
 have:=MN (hone:=λ_ _ _ h=>vU h) (F:=Cm) (Gd:=Hm) (.inl ⟨rfl,rfl⟩) (fun{c li te} h1 h2 {t l} h3 h4 h5=>Ho (bad:=bad) h1 h2 h3 h4 h5) l [] 0 0 (by simp) (by omega) (by omega) hg
 exact⟨this.1,λa h=>by have:=this.2 a h;rwa [bI]at this⟩
theorem Hq{bad:nI}{l:List Tok}(hg:nk l bad):(∀e,mQ bad [] l= .error e->mD 15 bad 15 0 0 0 l=e/\e.1≠0)/\ ∀a,mQ bad [] l= .ok a->mD 15 bad 15 0 0 0 l=(0,0)/\a=(yX l).map Ay/\a.length<=4096/\ ∀s∈yX l,s≠[]:=by
 have:=MN (hone:=λ_ _ _ h=>Be h) (F:=Ay) (Gd:=λs=>s≠[]) (.inr ⟨rfl,rfl⟩) (fun{c li te} h1 h2 {t l} h3 h4 h5=>Qi (bad:=bad) h1 h2 h3 h4 h5) l [] 0 0 (by simp) (by omega) (by omega) hg
 exact⟨this.1,λa h=>by have:=this.2 a h;rwa [bI]at this⟩
theorem XY{s:List UInt8}{l:List Tok}{c:Int}{p:Nat}(h:(c≠0/\c≠1/\p<s.length/\ ∀t∈l,t.1≠0)\/(c=0/\p=0/\aew l s.length)):nk l (c,(p:Int)):=by
 rcases h with h|⟨rfl,rfl,r,rfl,hr⟩
 ·exact .inl ⟨h.1,h.2.2.2⟩
 ·exact .inr ⟨rfl,r,adI s.length,rfl,rfl,hr⟩
end Edict
namespace Edict
theorem KE{go:Nat->Bool}(hg: ∀i,go i=true)(fl:Int×Nat): ∀(l:List Tok) (i:Nat),Ct go fl i l=(i+l.length,fl)
 |[],i=>rfl
 |t::r,i=>by
  unfold Ct
  rw[ay (hg i),KE hg fl r (i+1),aM]
  congr 1;omega
theorem Dz{s:List UInt8}{k:Nat}(hk:k<=s.length):(mo s k).1.length<=s.length - k+1:=by
 cases hn:oo s k with
 |bad c o=>rw[Dm hn];simp
 |ok t=>
  by_cases h0:t.1=0
  ·rw[Dn hn h0];simp
  ·rw[GK hk hn h0]
   obtain⟨c,v,a,p,o,e,rfl,q1,q2,q3,q4⟩:=xO hk hn
   simp only at h0
   have:=q4 h0
   simp only[eT,aM]
   have:=Dz (s:=s) (k:=e) q2
   omega
termination_by s.length - k
theorem xk(s:List UInt8):(lZ s).1.length<=65537:=by
 unfold lZ
 split
 ·simp
 ·have:=Dz (s:=s) (k:=0) (by omega)
  show(mo s 0).1.length<=_
  omega
end Edict
namespace Go.Ev
open Go Rep Edict
set_option linter.unusedVariables false
theorem mJ{u:U}{h:H}{t:Tok}{cs:List Value}:rep u h t cs=(cs=lK t):=by simp [mO,lD,qK,lK]
theorem Bi:sz Tok=6:=rfl
theorem kK {α:Type} [Rep α] {G:mG} {e e':TypeId} {bytes s:Nat} {z cs:List Value} {k p:Nat} {u:U} {h:H} {v:Value} {l:List α} {x:α} {d:Option Nat} {st:uw} {r:List St} {K:lm->H->Prop} {KP:List PanicEntry->H->Prop} {σ:lm}
  (hp:p=h.size) (ho:mr k u h v l) (hx:rep u h x cs) (hs:s=sz α) (hz:z.length=sz α) (hk:k<=h.size) (hb:(l.length+1)*bytes<=140737488355328)
  (hK: ∀a n c u' h',mr k u' h' (.slice a n c) (l++[x])->kG (kN v) u h u' h'->(∀b,kN (.slice a n c) b->kN v b\/h.size<=b)->nS st σ (h.push (.cells cs.toArray e')) h'/\mf G r K KP (qU σ d (.slice a n c)) h'):
  sP G (.app e s bytes z) d st r K KP [v,.slice (some ⟨p,0,none⟩) 1 1] σ (h.push (.cells cs.toArray e')):=by
 subst hp
 exact Oy (G:=G) (KP:=KP) (K:=λv' h'=>nS st σ (h.push (.cells cs.toArray e')) h'/\mf G r K KP (qU σ d v') h') ho hx hs hz hk hb (λv' u' h' o' s' b'=>by
  obtain⟨a,c,rfl,-,-⟩:=o'.sl
  exact hK _ _ _ _ _ o' s' b')
end Go.Ev
namespace Go.Proofs.Z
open Go Go.Ev Edict
variable {vs:List Value} {h:H} {K:Value->H->Prop} {KP:List PanicEntry->H->Prop}
def VY(vs:List Value)(h:H)(K:Value->H->Prop):Prop:= ∃(u:U) (bx k:Nat) (v:Value) (l:List Tok) (t:Tok),vs=[.agg (lK t).toArray,.pointer (some ⟨bx,0,none⟩)]/\kV u h bx [v]/\mr k u h v l/\bx<k/\k<=h.size/\l.length<=65537/\
 ∀u' h' v',kG (λb=>b=bx\/kN v b) u h u' h'->kV u' h' bx [v']->mr k u' h' v' (l++[t])->(∀b,kN v' b->kN v b\/h.size<=b)->K (.bool true) h'
theorem TW(hC:VY vs h K):ma Tryz.prog 101 vs h K KP:=by
 obtain⟨u,bx,k,v,l,t,rfl,hB,ho,hbk,hk,hl,hK⟩:=hC
 have hB1:=hB.1
 obtain⟨va,vc,rfl,hv1,hv2⟩:=ho.sl
 refine kP 15 [(none,(.t 3))] (G:=(λ_ _ _ _ _=>False)) (λ_ _ _ _ _ h=>h.elim) Tryz.func101 (by kernel_rfl) (by conv=>lhs;cbv;try simp only[mF]) ?_
 have sp:=kG.qZ S0 u h (lK t).toArray 177
 have B1:=hB.sZ sp
 have o1:=ho.sZ sp
 simp only[lK]at sp B1 o1 ⊢
 simp(disch:=first|omega|simp only[zz];try omega;done) only[↓reduceIte,go_sem,hB.at,hB.2.1]
 refine kK (by simp only[yj]) o1 (x:=t) (by rw[mJ];rfl) rfl rfl (by simp only[yj];omega) (by omega) λa n c u2 h2 ho2 s2 hO=> ?_
 have hne: ∀b,kN (.slice va l.length vc) b->k<=b:=λb hb=>ho.ge hb
 have B2:=B1.step s2 (λhb=>by have:=hne _ hb;omega)
 have B21:=B2.1
 refine⟨kY,?_⟩
 have ss:=kG.set (S:=λb=>b=bx) u2 h2 (o:=0) (.slice a n c) (b:=bx) rfl (by rw[B2.2.2.2.1];exact az _)
 have st:kG (λb=>b=bx\/kN (.slice va l.length vc) b) u h u2 (lh h2 bx 0 (.slice a n c)):=
  ((sp.mono (S':=λb=>b=bx\/kN (.slice va l.length vc) b) (λ_ _ h=>h.elim)).trans s2 (λb _ hb=> .inr hb)).trans ss (λb _ hb=> .inl hb)
 have B3:=B2.set (i:=0) (v:= .slice a n c) (by simp)
 simp(disch:=first|omega|simp only[zz];try omega;done) only[↓reduceIte,go_sem,B2.2.1,B2.2.2.1]
 exact hK _ _ _ st B3 (ho2.step ss (λb hb he=>by have:=ho2.ge hb;omega)) (λb hb=>(hO b hb).imp id λq=>by simp at q;omega)
def aa8:mG:=λf vs h K _=>f=101/\VY vs h K
theorem Ya:nz Tryz.prog aa8:=by
 rintro f vs h K KP ⟨rfl,hC⟩;exact TW hC
def aa9(vs:List Value)(h:H)(K:Value->H->Prop):Prop:= ∃(u:U) (s:List UInt8),vs=[str s]/\s.length<=9223372036854775807/\Kg u h/\ ∀u' h' v,kG S0 u h u' h'->mr h.size u' h' v (lZ s).1->K (.tuple #[v,.agg (kT (lZ s).2.1 (lZ s).2.2).toArray]) h'
def aba:mG:=λf vs h K _=>f=100/\aa7 aa8 vs h K
theorem Qq:nz Tryz.prog aba:=by
 rintro f vs h K KP ⟨rfl,hC⟩;exact XZ Ya hC
theorem KF(hC:aa9 vs h K):ma Tryz.prog 78 vs h K KP:=by
 obtain⟨u,s,rfl,hl,hG,hK⟩:=hC
 refine kP 61 [(none,(.t 2)),((some (.c1 (.ldn 3) (.t 3))),(.o1 (.ldn 3) (.t 3)))] Qq Tryz.func78 (by kernel_rfl) (by conv=>lhs;cbv;try simp only[mF]) ?_
 have R1:=kV.new (u:=u) (h:=h) (kT 0 0) 44
 have R2:=R1.pZ (c:= #[.slice none 0 0]) (t:=132)
 have b2:=kV.new (u:=ub u h.size 0) (h:=h.push (.cells (kT 0 0).toArray 44)) [.slice none 0 0] 132
 have st2:=((kG.refl S0 u h).pZ (c:=(kT 0 0).toArray) (t:=44)).pZ (c:= #[.slice none 0 0]) (t:=132)
 have hlen:=xk s
 simp only[yj,kT]at R2 b2 st2
 simp(disch:=first|omega|simp only[zz];try omega;done) only[↓reduceIte,go_sem,aeo]
 obtain⟨h2,hh2⟩:=kJ ((h.push (.cells (kT 0 0).toArray 44)).push (.cells #[.slice none 0 0] 132))
 obtain⟨u2,hu2⟩:=kJ (ub (ub u h.size 0) (h.size+1) 0)
 simp only[kT]at hh2
 rw[<-hh2,<-hu2]at R2 b2 st2
 rw[<-hh2]
 have hs2:h2.size=h.size+2:=by rw[hh2];simp
 refine kD ⟨rfl,u2,s,_,λ_=>true,λb=>b=h.size+1,λi O u' h'=> ∃v,O=(λb=>b=h.size+1\/kN v b)/\kV u' h' (h.size+1) [v]/\mr (h.size+2) u' h' v ((lZ s).1.take i)/\h.size+2<=h'.size,rfl,hl,hG.mono st2.ge,?_,?_,?_,?_,?_⟩
 ·refine⟨.slice none 0 0,?_,b2,.nil _ _ _,by omega⟩
  funext b
  apply propext
  refine⟨.inl,λq=> ?_⟩
  rcases q with q|⟨o,n,c,q⟩
  ·exact q
  ·cases q
 ·rintro i O u1 h1 ⟨v,rfl,q1,q2,q3⟩ b hb
  rcases hb with rfl|hb
  ·exact q1.1
  ·exact q2.lt hb
 ·rintro i O T u1 h1 u3 h3 ⟨v,rfl,q1,q2,q3⟩ st hT
  exact⟨v,rfl,q1.step st (hT _ (.inl rfl)),q2.step st (λb hb=>hT b (.inr hb)),aY q3 st.ge.sz⟩
 ·refine .inr ⟨101,[.pointer (some ⟨h.size+1,0,none⟩)],rfl,?_⟩
  rintro i t O u1 h1 Q QP hti ⟨v,rfl,q1,q2,q3⟩ - hQ
  have hi:=(aJ.1 hti).1
  refine⟨rfl,u1,h.size+1,h.size+2,v,_,t,rfl,q1,q2,by omega,q3,by rw[aT];omega,λu3 h3 v3 s3 b3 o3 hO3=> ?_⟩
  refine hQ (λb=>b=h.size+1\/kN v3 b) u3 h3 s3 ⟨v3,rfl,b3,?_,aY q3 s3.ge.sz⟩ (λb hb=> ?_)
  ·rw[List.take_add_one,hti];exact o3
  ·rcases hb with hb|hb
   ·exact .inl (.inl hb)
   ·exact(hO3 b hb).imp .inr id
 ·rintro u3 h3 O m c o s3 ⟨v,rfl,q1,q2,q3⟩ hO he
  rw[KE (λ_=>rfl)]at he
  simp only[bY,bS]at he
  obtain⟨rfl,he⟩:=he
  rw[jI]at q2
  have hc:(lZ s).2.1=c:=by rw[he]
  have ho:(lZ s).2.2=o:=by rw[he]
  rw[hc,ho]at hK
  have R3:=R2.step s3 (by omega)
  have st3:=st2.trans s3 (λb hb hq=>by omega)
  obtain⟨va,vc,rfl,-,-⟩:=q2.sl
  have q11:=q1.1;have R31:=R3.1
  have R32:=R3.2.1
  simp only[aM,bg]at R32
  have w1:=st3.rZ (b:=h.size) (o:=0) (l:=kT c o) (.inl (aH _)) (by rw[R3.2.2.2.1];exact az _) (by rw[R32];simp [kT])
  have w2:=kG.sets (S:=λb=>b=h.size) u3 h3 (b:=h.size) (o:=0) (kT c o) rfl (by rw[R3.2.2.2.1];exact az _) (by rw[R32];simp [kT])
  have R4:=R3.sets (l:=kT c o) rfl
  have f0:(kU h3 h.size 0 (kT c o)).size=h3.size:=mX _ _ _ _
  have q5:=q2.step w2 (λb hb he=>by have:=q2.ge hb;omega)
  refine⟨kY,?_⟩
  simp only[kT]at w1 R4 f0 q5
  have R41:=R4.1
  simp only[kT]
  simp(disch:=first|omega|simp only[zz];try omega;done) only[↓reduceIte,go_sem,q1.at,q1.2.1,R32,R3.2.2.1,R4.at,R4.2.1]
  exact hK _ _ _ w1.pZ ((q5.sZ (kG.qZ S0 _ _ _ _)).mono (by omega))
end Go.Proofs.Z
