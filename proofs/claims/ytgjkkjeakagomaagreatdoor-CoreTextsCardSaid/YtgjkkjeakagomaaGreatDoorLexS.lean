/- A part of the proof. -/
import Derived.Test.YtgjkkjeakagomaaGreatDoorLexV
import Derived.Test.YtgjkkjeakagomaaGreatDoorShelf
import Derived.KernelRfl
import Derived.Test.YtgjkkjeakagomaaGreatDoorGap
set_option linter.all false
set_option maxRecDepth 100000
set_option maxHeartbeats 4000000
open Go.Value renaming int→Jx
open Go.IntKind renaming i64→JT
namespace Edict
def yJ(a:Nat)(l:List UInt8):Nat:=l.foldl (λv c=>v*10+(c.toNat - 48)) a
theorem Nv: ∀(l:List UInt8) (a:Nat),a<=yJ a l
 |[],a=>ak a
 |c::r,a=>by
  have:=Nv r (a*10+(c.toNat - 48))
  simp only[yJ,bN]at this ⊢
  omega
theorem Ir: ∀(l:List UInt8) (a:Nat),(∀c∈l,pg c.toNat=true)->a<=18446744073709551615->Go.Lib.parseUintM 18446744073709551615 a l=if yJ a l<=18446744073709551615 then .ok (yJ a l)else .range
 |[],a,_,ha=>by simp [Go.Lib.parseUintM,yJ,ha]
 |c::r,a,hd,ha=>by
  have hc:=hd c zP
  have hc':48<=c.toNat/\c.toNat<=57:=by unfold pg at hc;simpa using hc
  have hg:=Nv r (a*10+(c.toNat - 48))
  have he:yJ a (c::r)=yJ (a*10+(c.toNat - 48)) r:=rfl
  unfold Go.Lib.parseUintM
  rw[ah hc',he]
  by_cases h1:1844674407370955162<=a
  ·rw[ah h1,af zO]
  ·rw[af h1]
   by_cases h2:18446744073709551615<a*10+(c.toNat - 48)
   ·rw[ah h2,af zO]
   ·rw[af h2]
    exact Ir r _ (λx hx=>hd x (by simp [hx])) zO
def Di(neg:Bool)(d:List UInt8):Option Int:=if neg then(if mX d<=9223372036854775808 then some (-(mX d:Nat))else none)else if mX d<=9223372036854775807 then some (mX d:Nat)else none
def Gh(neg:Bool):List UInt8:=if neg then [45]else []
theorem ZB{neg:Bool}{d:List UInt8}(h0:d≠[])(hd: ∀c∈d,pg c.toNat=true):Go.Lib.parseIntB 64 (Gh neg++d)=match Di neg d with|some v=> .ok v|none=> .range:=by
 have e1:(2:Nat) ^ (64 - 1)=9223372036854775808:=zD
 have e2:(2:Nat) ^ 64 - 1=18446744073709551615:=zD
 have hp:=Ir d 0 hd zD
 have hdv:yJ 0 d=mX d:=rfl
 rw[hdv]at hp
 have hu:Go.Lib.parseUintB 64 d=if mX d<=18446744073709551615 then .ok (mX d)else .range:=by unfold Go.Lib.parseUintB;rw[af h0,e2,hp]
 cases neg with
 |true=>
  simp only[Gh,bv,aP,aJ,Di]
  unfold Go.Lib.parseIntB
  simp only[show(45:UInt8).toNat=45 from rfl,or_true,bv,hu,e1]
  by_cases q1:mX d<=18446744073709551615
  ·rw[ah q1]
   by_cases q2:mX d<=9223372036854775808
   ·rw[ah q2];simp;omega
   ·rw[af q2];simp;omega
  ·rw[af q1,af zO]
 |false=>
  cases d with
  |nil=>exact absurd rfl h0
  |cons c r=>
   have hc:=hd c zP
   have hc':48<=c.toNat/\c.toNat<=57:=by unfold pg at hc;simpa using hc
   simp only[Gh,aD,aW,aJ,Di]
   unfold Go.Lib.parseIntB
   simp only[show¬c.toNat=43 by omega,show¬c.toNat=45 by omega,or_self,aW,hu,e1]
   by_cases q1:mX (c::r)<=18446744073709551615
   ·rw[ah q1]
    by_cases q2:mX (c::r)<=9223372036854775807
    ·rw[ah q2];simp;omega
    ·rw[af q2];simp;omega
   ·rw[af q1,af zO]
end Edict
namespace Go.Ev
open Go
theorem jD.ofSame{u:U}{h h':H}(hs:h.size<=h'.size)(hb: ∀b,b<h.size->h'[b]? =h[b]?):jD S0 u h u h':=by
 refine⟨⟨hs,λ_ _=>ak _,λb hl=> ?_,λb hl o _=> ?_⟩,λb hl _=>⟨hb b hl,rfl⟩⟩
 ·unfold lS tJ;rw[hb b hl];exact⟨rfl,rfl⟩
 ·unfold Go.Ev.hv hc;rw[hb b hl]
end Go.Ev
namespace Go.Proofs.Z
open Go Go.Ev Edict
def UI(u:U)(h:H):Prop:=2<h.size/\1<=lS h 2/\1<=u 2/\(hv h 2 0= .nilIface\/ ∃t p,hv h 2 0= .iface t p)
theorem UI.mono{u u':U}{h h':H}(k:UI u h)(g:Ge u h u' h'):UI u' h':=by
 obtain⟨k1,k2,k3,k4⟩:=k
 refine⟨bP k1 g.sz,by rw[(g.hs _ k1).1];exact k2,aT k3 (g.up _ k1),?_⟩
 rw[g.cl _ k1 0 zO];exact k4
def acA(vs:List Value)(h:H)(K:Value->H->Prop):Prop:= ∃(u:U) (neg:Bool) (d:List UInt8),vs=[str (Gh neg++d),Jx JT 10,Jx JT 64]/\d.length<=65536/\d≠[]/\(∀c∈d,pg c.toNat=true)/\UI u h/\
 ∀u' h',jD S0 u h u' h'->(match Di neg d with|some v=>K (.tuple #[Jx JT v,.nilIface]) h'|none=> ∀n t p,K (.tuple #[Jx JT n,.iface t p]) h')
theorem Ql{vs:List Value}{h:H}{K:Value->H->Prop}{KP:List PanicEntry->H->Prop}(hC:acA vs h K):kN Tryz.prog 159 vs h K KP:=by
 obtain⟨u,neg,d,rfl,hl,h0,hd,⟨g1,g2,g3,g4⟩,hK⟩:=hC
 have hp:=ZB (neg:=neg) h0 hd
 have hsl:(Gh neg).length<=1:=by cases neg<;>simp [Gh]
 have lS:(⟨(Gh neg++d).toArray⟩:ByteArray).size<=65537:=by
  show(Gh neg++d).toArray.size<=65537
  simp only[fI,ay];omega
 refine .inl ⟨by kernel_rfl,λw hw=> ?_⟩
 subst hw
 cases hv:Di neg d with
 |some v=>
  rw[hv]at hp hK
  refine(Tryz.strconv_ParseInt_10_at64_ok ⟨(Gh neg++d).toArray⟩ zO v hp w).mono ?_
  rintro e w' ⟨rfl,rfl|⟨t,rfl⟩⟩
  ·exact⟨.refl _,hK u _ (.refl _ _ _)⟩
  ·exact⟨⟨rfl,rfl,rfl⟩,hK u _ (jD.ofSame (by rw[Lib.bytesWorld_size];omega) (λb hb=>Lib.bytesWorld_at_old _ _ _ _ hb))⟩
 |none=>
  rw[hv]at hp hK
  have hcell:w.cell? ⟨2,0,none⟩=some (Go.Ev.hv w.heap 2 0):=by rw[pY];exact wT g2
  refine(Tryz.strconv_ParseInt_10_at64_range ⟨(Gh neg++d).toArray⟩ zO hp _ w hcell g4).mono ?_
  rintro e w' ⟨N,rfl,-,-,hb⟩
  exact⟨⟨hb.os,hb.tape,hb.output⟩,hK u _ (jD.ofSame hb.size hb.block) _ _ _⟩
end Go.Proofs.Z
namespace Edict
variable {b k:Nat} {s:List UInt8}
theorem vz{a:Nat}(hb:b<=s.length):zS s a b=true↔ ∀i,a<=i->i<b->pg (kY s i)=true:=by
 have hg: ∀i,i<b - a->(sub s a b)[i]? =s[a+i]? :=λi hi=>by
  unfold sub
  rw[dP,dE,ah zO]
 have hl:(sub s a b).length=b - a:=Dn hb
 have hbat: ∀i,i<s.length-> ∀c,s[i]? =some c->kY s i=c.toNat:=λi hi c hc=>by unfold kY;rw[aG,hc];rfl
 unfold zS
 rw[bI]
 constructor
 ·intro h i h1 h2
  have hi:i<s.length:=zO
  have hm:s[i]? =some s[i]:=by simp [hi]
  have hx:=hg (i - a) zO
  rw[show a+(i - a)=i by omega,hm]at hx
  rw[hbat i hi _ hm]
  exact h _ (aF hx)
 ·intro h c hc
  obtain⟨i,hi⟩:=List.mem_iff_getElem?.1 hc
  have hlt:=(aB.1 hi).1
  rw[hg i zO]at hi
  have:=h (a+i) zO zO
  rwa [hbat (a+i) zO c hi]at this
def Qj(s:List UInt8)(k:Nat):Bool:=decide (kY s k=45)
def oh(s:List UInt8)(k:Nat):Nat:=if kY s k=45 then k+1 else k
theorem acz(hd:zS s (oh s k) (oW s (oh s k))=true):si s k (oh s k)=match Di (Qj s k) (sub s (oh s k) (oW s (oh s k)))with|some v=> .ok (3,[],v,0,k,oW s (oh s k))|none=> .bad 13 k:=by
 unfold si
 rw[ah hd]
 unfold Di Qj
 by_cases h:kY s k=45
 ·have hf:oh s k=k+1:=by unfold oh;rw[ah h]
  rw[hf,ah zO,bq h,ah rfl]
  split<;>rfl
 ·have hf:oh s k=k:=by unfold oh;rw[af h]
  rw[hf,af zO,aI h]
  simp only[aD,aW]
  split<;>rfl
theorem Nt(hd:zS s b (oW s b)=false):si s k b= .bad 13 k:=by unfold si;rw[hd];rfl
theorem XM{e:Nat}(h:oh s k<=e)(he:e<=s.length)(hk:k<s.length):(s.take e).drop k=Gh (Qj s k)++sub s (oh s k) e:=by
 unfold Gh Qj sub oh
 by_cases hm:kY s k=45
 ·have hf:oh s k=k+1:=by unfold oh;rw[ah hm]
  rw[hf]at h
  rw[bq hm,ah rfl,ah hm]
  have hm':s[k]=45:=by
   unfold kY at hm
   rw[aG,bf hk]at hm
   exact eH.1 hm
  rw[aN (by simp;omega)]
  simp [hm']
 ·rw[aI hm,af hm];simp
end Edict
namespace Go.Proofs.Z
open Go Go.Ev Edict
def Qk:lq:=λf vs h K _=>(f=137/\xE pg vs h K)\/(f=158/\acD vs h K)\/(f=136/\Dk vs h K)\/(f=159/\acA vs h K)
theorem Iq:lQ Tryz.prog Qk:=lY uV (lY Qq (lY yK (pX Ql)))
theorem Nu{vs:List Value}{h:H}{K:Value->H->Prop}{KP:List PanicEntry->H->Prop}(hC:FC UI (λs k=>si s k (oh s k)) (λs k=>k<s.length/\pg (kY s (oh s k))=true) vs h K):kN Tryz.prog 139 vs h K KP:=by
 obtain⟨u,B,s,k,rfl,hB,hk,hl,⟨hlt,hdg⟩,hE,hK⟩:=hC
 have hK: ∀u' h',jD (λi=>i=B) u h u' h'->(∀t,si s k (oh s k)= .ok t->Ny u' h' B s t.2.2.2.2.2.toNat)->K (qw (si s k (oh s k))) h':=hK
 have hB1:=hB.1
 have hble:oh s k<s.length:=gT λh=>by rw[yL h]at hdg;simp [pg]at hdg
 have hr1:=xQ hble (by unfold zw;rw[hdg];rfl)
 have hr2:=wV s _ (dQ hble)
 refine jJ 288231476739179517 [((some (.c1 (.ldn 6) (.t 2))),(.o1 (.ldn 6) (.t 2))),((some (.c1 (.ldn 3) (.t 3))),(.o1 (.ldn 3) (.t 3)))] Iq Tryz.func139 ?_
 have sp:jD (λi=>i=B) u h _ _:=jD.qZ (λi=>i=B) u h jV.toArray 46
 have T0:jR (ub u h.size 0) (h.push (.cells jV.toArray 46)) h.size jV:=jR.new jV _
 have sp1:=sp.pZ (c:=(jH 0 0).toArray) (t:=27)
 have T1:=T0.pZ (c:=(jH 0 0).toArray) (t:=27)
 have F1:=jR.new (u:=ub u h.size 0) (h:=h.push (.cells jV.toArray 46)) (jH 0 0) 27
 have b1:=(hB.pZ (c:=jV.toArray) (t:=46)).pZ (c:=(jH 0 0).toArray) (t:=27)
 have E1:=hE.mono sp1.ge
 simp only[kw]at sp1 T1 F1 b1 E1
 by_cases hm:kY s k=45
 ·have hf:oh s k=k+1:=by unfold oh;rw[ah hm]
  have hneg:Qj s k=true:=by unfold Qj;exact bq hm
  simp(disch:=first|omega|simp only[zz];try omega;done) only[↓reduceIte,go_sem,hB.at,hB.2.1,qD,ai hlt,ai (show(kY s k:Int)=45 by omega)]
  refine jC (.inr (.inl ⟨rfl,B,s,k+1,zP,by simp(disch:=first|omega|simp only[zz];try omega;done) only[go_sem,hB.2.1],by simp(disch:=first|omega|simp only[zz];try omega;done) only[go_sem,hB.at],zO,hl,⟨jO,?_⟩⟩))
  rw[hf]at hr1 hr2 hK hdg hble
  obtain⟨e,he⟩:=kg (oW s (k+1))
  rw[<-he]at hr1 hr2 ⊢
  obtain⟨h1,hh1⟩:=kg ((h.push (.cells jV.toArray 46)).push (.cells (jH 0 0).toArray 27))
  rw[<-hh1]at sp1 T1 F1 b1 E1
  simp only[jV,jH]at hh1
  simp only[↓reduceIte,go_sem,jN]
  rw[<-hh1]
  clear sp T0 hh1
  obtain⟨u1,hu1⟩:=kg (ub (ub u h.size 0) (h.size+1) 0)
  rw[<-hu1]at sp1 T1 F1 b1 E1
  have b11:=b1.1;have T11:=T1.1;have F11:=F1.1
  obtain⟨I,hI⟩:=kg (α:=Nat->ku->H->Prop) λj σ h'=>σ 0= .pointer (some ⟨B,0,none⟩)/\σ 2= .pointer (some ⟨h.size,0,none⟩)/\σ 3= .pointer (some ⟨h.size+1,0,none⟩)/\σ 4= Jx JT k/\σ 6= Jx JT e/\σ 7= Jx JT j/\h'=h1/\k+1<=j/\j<=e/\ ∀i,k+1<=i->i<j->pg (kY s i)=true
  refine jE I (λj=>e - j) (k+1) (by
   rw[hI]
   exact⟨zJ,zJ,zJ,zJ,zJ,zJ,rfl,zO,zO,λi h1 h2=>zO⟩) ?_
  intro j σ h' hy
  rw[hI]at hy
  obtain⟨e0,e2,e3,e4,e6,e7,rfl,hbj,hje,hall⟩:=hy
  by_cases hj:j<e
  ·simp(disch:=first|omega|simp only[zz];try omega;done) only[↓reduceIte,go_sem,e0,e6,e7,ai hj,b1.at,b1.2.1,ai (show j<s.length by omega),qD]
   refine jC (.inl ⟨rfl,kY s j,rfl,⟨jO,?_⟩⟩)
   cases hd:pg (kY s j)with
   |true=>
    simp(disch:=omega) only[↓reduceIte,go_sem,e7]
    refine⟨j+1,?_,zO⟩
    rw[hI]
    exact⟨by simp [jI,e0],by simp [jI,e2],by simp [jI,e3],by simp [jI,e4],by simp [jI,e6],zJ,rfl,zO,zO,λi q1 q2=>by
     by_cases q:i=j
     ·rw[q];exact hd
     ·exact hall i q1 zO⟩
   |false=>
    have hbad:si s k (k+1)= .bad 13 k:=Nt (by
     rw[<-he]
     cases hq:zS s (k+1) e with
     |false=>rfl
     |true=>have:=(vz hr2).1 hq j hbj hj;rw[hd]at this;cases this)
    rw[hbad]at hK
    simp only[↓reduceIte,go_sem,e0,e4]
    refine jC (.inr (.inr (.inl ⟨rfl,u1,_,13,k,rfl,λu2 h2 s2=>⟨jO,?_⟩⟩)))
    have T2:=T1.sZ s2
    have F2:=F1.sZ s2
    obtain⟨r1,r2,r3,-⟩:=mO (la:=jV) (lb:=jH 13 k) (sp1.tZ s2) T2 F2 zO zO zO rfl rfl
    have T21:=T2.1
    have F21:=F2.1
    simp only[jV,jH]at r1 r2 r3
    simp(disch:=first|omega|simp only[zz];try omega;done) only[↓reduceIte,go_sem,e2,e3,jV,jH,T2.2.1,T2.2.2.1,F2.2.1,F2.2.2.1,jP,jQ,r2.at,r3.at,r2.2.1,r3.2.1]
    exact hK _ _ r1 (λt ht=>by cases ht)
  ·obtain rfl:j=e:=zO
   have hdall:zS s (k+1) j=true:=(vz hr2).2 hall
   have hie:=acz (s:=s) (k:=k) (by rw[hf,<-he];exact hdall)
   rw[hf,hneg,<-he]at hie
   rw[hie]at hK
   have hsub:=XM (s:=s) (k:=k) (e:=j) (by rw[hf];omega) hr2 hlt
   rw[hf,hneg]at hsub
   have hsl:=Dn (s:=s) (a:=k+1) hr2
   simp(disch:=first|omega|simp only[zz];try omega;done) only[↓reduceIte,go_sem,e0,e4,e6,e7,b1.at,b1.2.1,ai (show k<=j by omega),ai hr2]
   rw[hsub]
   refine jC (.inr (.inr (.inr ⟨rfl,u1,true,sub s (k+1) j,rfl,zO,by intro q;rw[q]at hsl;simp at hsl;omega,λc hc=>(bI.1 hdall) c hc,E1,λu3 h3 s3=> ?_⟩)))
   have st3:=sp1.tZ s3
   have T3:=T1.sZ s3
   have F3:=F1.sZ s3
   have b3:=b1.sZ s3
   have b31:=b3.1;have T31:=T3.1;have F31:=F3.1
   cases hv:Di true (sub s (k+1) j)with
   |none=>
    rw[hv]at hK
    simp only
    intro n t p
    refine⟨jO,?_⟩
    simp(disch:=omega) only[↓reduceIte,go_sem,e0,e4]
    refine jC (.inr (.inr (.inl ⟨rfl,u3,_,13,k,rfl,λu2 h2 s2=>⟨jO,?_⟩⟩)))
    have T2:=T3.sZ s2
    have F2:=F3.sZ s2
    obtain⟨r1,r2,r3,-⟩:=mO (la:=jV) (lb:=jH 13 k) (st3.tZ s2) T2 F2 zO zO zO rfl rfl
    have T21:=T2.1
    have F21:=F2.1
    simp only[jV,jH]at r1 r2 r3
    simp(disch:=first|omega|simp only[zz];try omega;done) only[↓reduceIte,go_sem,e2,e3,jV,jH,T2.2.1,T2.2.2.1,F2.2.1,F2.2.2.1,jP,jQ,r2.at,r3.at,r2.2.1,r3.2.1]
    exact hK _ _ r1 (λt ht=>by cases ht)
   |some v=>
    rw[hv]at hK
    simp only
    refine⟨jO,?_⟩
    have hst2:=st3.setR (o:=1) (v:= Jx JT (j:Int)) (.inr rfl) (by rw[b3.2.2.2.1];exact aj _)
    have b4:Ny u3 (ky h3 B 1 (Jx JT (j:Int))) B s j:=b3.set (i:=1) (v:= Jx JT (j:Int)) zP
    have ss:=jD.set (S:=λi=>i=B) u3 h3 (o:=1) (Jx JT (j:Int)) (b:=B) rfl (by rw[b3.2.2.2.1];exact aj _)
    have T4:=T3.step ss zO
    have F4:=F3.step ss zO
    obtain⟨r1,r2,r3,r4⟩:=mO (la:=[Jx JT 3,str [],Jx JT v,Jx JT 0,Jx JT k,Jx JT (j:Int)]) (lb:=jH 0 0) hst2 T4 F4 zO zO zO rfl rfl
    have b5:=r4 B _ b4 zO zO
    have T41:=T4.1;have F41:=F4.1
    have T42:=T4.2.1
    have F42:=F4.2.1
    simp only[jV,jH,au,aA]at r1 r2 r3 b5 T42 F42
    simp(disch:=first|omega|simp only[zz];try omega;done) only[↓reduceIte,go_sem,e0,e2,e3,e4,e6,b3.2.1,b3.2.2.1,T42,T4.2.2.1,F42,F4.2.2.1,jP,jQ,r2.at,r3.at,r2.2.1,r3.2.1]
    exact hK _ _ r1 (λt ht=>by cases ht;exact b5)
 ·have hf:oh s k=k:=by unfold oh;rw[af hm]
  have hneg:Qj s k=false:=by unfold Qj;exact aI hm
  simp(disch:=first|omega|simp only[zz];try omega;done) only[↓reduceIte,go_sem,hB.at,hB.2.1,qD,ai hlt,ae (show¬(kY s k:Int)=45 by omega)]
  refine jC (.inr (.inl ⟨rfl,B,s,k,zP,by simp(disch:=first|omega|simp only[zz];try omega;done) only[go_sem,hB.2.1],by simp(disch:=first|omega|simp only[zz];try omega;done) only[go_sem,hB.at],zO,hl,⟨jO,?_⟩⟩))
  rw[hf]at hr1 hr2 hK hdg hble
  obtain⟨e,he⟩:=kg (oW s (k))
  rw[<-he]at hr1 hr2 ⊢
  obtain⟨h1,hh1⟩:=kg ((h.push (.cells jV.toArray 46)).push (.cells (jH 0 0).toArray 27))
  rw[<-hh1]at sp1 T1 F1 b1 E1
  simp only[jV,jH]at hh1
  simp only[↓reduceIte,go_sem,jN]
  rw[<-hh1]
  clear sp T0 hh1
  obtain⟨u1,hu1⟩:=kg (ub (ub u h.size 0) (h.size+1) 0)
  rw[<-hu1]at sp1 T1 F1 b1 E1
  have b11:=b1.1;have T11:=T1.1;have F11:=F1.1
  obtain⟨I,hI⟩:=kg (α:=Nat->ku->H->Prop) λj σ h'=>σ 0= .pointer (some ⟨B,0,none⟩)/\σ 2= .pointer (some ⟨h.size,0,none⟩)/\σ 3= .pointer (some ⟨h.size+1,0,none⟩)/\σ 4= Jx JT k/\σ 6= Jx JT e/\σ 7= Jx JT j/\h'=h1/\k<=j/\j<=e/\ ∀i,k<=i->i<j->pg (kY s i)=true
  refine jE I (λj=>e - j) (k) (by
   rw[hI]
   exact⟨zJ,zJ,zJ,zJ,zJ,zJ,rfl,zO,zO,λi h1 h2=>zO⟩) ?_
  intro j σ h' hy
  rw[hI]at hy
  obtain⟨e0,e2,e3,e4,e6,e7,rfl,hbj,hje,hall⟩:=hy
  by_cases hj:j<e
  ·simp(disch:=first|omega|simp only[zz];try omega;done) only[↓reduceIte,go_sem,e0,e6,e7,ai hj,b1.at,b1.2.1,ai (show j<s.length by omega),qD]
   refine jC (.inl ⟨rfl,kY s j,rfl,⟨jO,?_⟩⟩)
   cases hd:pg (kY s j)with
   |true=>
    simp(disch:=omega) only[↓reduceIte,go_sem,e7]
    refine⟨j+1,?_,zO⟩
    rw[hI]
    exact⟨by simp [jI,e0],by simp [jI,e2],by simp [jI,e3],by simp [jI,e4],by simp [jI,e6],zJ,rfl,zO,zO,λi q1 q2=>by
     by_cases q:i=j
     ·rw[q];exact hd
     ·exact hall i q1 zO⟩
   |false=>
    have hbad:si s k (k)= .bad 13 k:=Nt (by
     rw[<-he]
     cases hq:zS s (k) e with
     |false=>rfl
     |true=>have:=(vz hr2).1 hq j hbj hj;rw[hd]at this;cases this)
    rw[hbad]at hK
    simp only[↓reduceIte,go_sem,e0,e4]
    refine jC (.inr (.inr (.inl ⟨rfl,u1,_,13,k,rfl,λu2 h2 s2=>⟨jO,?_⟩⟩)))
    have T2:=T1.sZ s2
    have F2:=F1.sZ s2
    obtain⟨r1,r2,r3,-⟩:=mO (la:=jV) (lb:=jH 13 k) (sp1.tZ s2) T2 F2 zO zO zO rfl rfl
    have T21:=T2.1
    have F21:=F2.1
    simp only[jV,jH]at r1 r2 r3
    simp(disch:=first|omega|simp only[zz];try omega;done) only[↓reduceIte,go_sem,e2,e3,jV,jH,T2.2.1,T2.2.2.1,F2.2.1,F2.2.2.1,jP,jQ,r2.at,r3.at,r2.2.1,r3.2.1]
    exact hK _ _ r1 (λt ht=>by cases ht)
  ·obtain rfl:j=e:=zO
   have hdall:zS s (k) j=true:=(vz hr2).2 hall
   have hie:=acz (s:=s) (k:=k) (by rw[hf,<-he];exact hdall)
   rw[hf,hneg,<-he]at hie
   rw[hie]at hK
   have hsub:=XM (s:=s) (k:=k) (e:=j) (by rw[hf];omega) hr2 hlt
   rw[hf,hneg]at hsub
   have hsl:=Dn (s:=s) (a:=k) hr2
   simp(disch:=first|omega|simp only[zz];try omega;done) only[↓reduceIte,go_sem,e0,e4,e6,e7,b1.at,b1.2.1,ai (show k<=j by omega),ai hr2]
   rw[hsub]
   refine jC (.inr (.inr (.inr ⟨rfl,u1,false,sub s (k) j,rfl,zO,by intro q;rw[q]at hsl;simp at hsl;omega,λc hc=>(bI.1 hdall) c hc,E1,λu3 h3 s3=> ?_⟩)))
   have st3:=sp1.tZ s3
   have T3:=T1.sZ s3
   have F3:=F1.sZ s3
   have b3:=b1.sZ s3
   have b31:=b3.1;have T31:=T3.1;have F31:=F3.1
   cases hv:Di false (sub s (k) j)with
   |none=>
    rw[hv]at hK
    simp only
    intro n t p
    refine⟨jO,?_⟩
    simp(disch:=omega) only[↓reduceIte,go_sem,e0,e4]
    refine jC (.inr (.inr (.inl ⟨rfl,u3,_,13,k,rfl,λu2 h2 s2=>⟨jO,?_⟩⟩)))
    have T2:=T3.sZ s2
    have F2:=F3.sZ s2
    obtain⟨r1,r2,r3,-⟩:=mO (la:=jV) (lb:=jH 13 k) (st3.tZ s2) T2 F2 zO zO zO rfl rfl
    have T21:=T2.1
    have F21:=F2.1
    simp only[jV,jH]at r1 r2 r3
    simp(disch:=first|omega|simp only[zz];try omega;done) only[↓reduceIte,go_sem,e2,e3,jV,jH,T2.2.1,T2.2.2.1,F2.2.1,F2.2.2.1,jP,jQ,r2.at,r3.at,r2.2.1,r3.2.1]
    exact hK _ _ r1 (λt ht=>by cases ht)
   |some v=>
    rw[hv]at hK
    simp only
    refine⟨jO,?_⟩
    have hst2:=st3.setR (o:=1) (v:= Jx JT (j:Int)) (.inr rfl) (by rw[b3.2.2.2.1];exact aj _)
    have b4:Ny u3 (ky h3 B 1 (Jx JT (j:Int))) B s j:=b3.set (i:=1) (v:= Jx JT (j:Int)) zP
    have ss:=jD.set (S:=λi=>i=B) u3 h3 (o:=1) (Jx JT (j:Int)) (b:=B) rfl (by rw[b3.2.2.2.1];exact aj _)
    have T4:=T3.step ss zO
    have F4:=F3.step ss zO
    obtain⟨r1,r2,r3,r4⟩:=mO (la:=[Jx JT 3,str [],Jx JT v,Jx JT 0,Jx JT k,Jx JT (j:Int)]) (lb:=jH 0 0) hst2 T4 F4 zO zO zO rfl rfl
    have b5:=r4 B _ b4 zO zO
    have T41:=T4.1;have F41:=F4.1
    have T42:=T4.2.1
    have F42:=F4.2.1
    simp only[jV,jH,au,aA]at r1 r2 r3 b5 T42 F42
    simp(disch:=first|omega|simp only[zz];try omega;done) only[↓reduceIte,go_sem,e0,e2,e3,e4,e6,b3.2.1,b3.2.2.1,T42,T4.2.2.1,F42,F4.2.2.1,jP,jQ,r2.at,r3.at,r2.2.1,r3.2.1]
    exact hK _ _ r1 (λt ht=>by cases ht;exact b5)
end Go.Proofs.Z
namespace Edict
abbrev Sg:=List UInt8×Int×Int
def nG:List Sg:=[([58,45],9,0),([33,61],11,2),([60,61],11,4),([62,61],11,6),([60],11,3),([62],11,5),([61],11,1),([40],5,0),([41],6,0),([44],7,0),([46],8,0)]
def tY(s:List UInt8)(o:Nat):List Sg->TR
 |[]=> .bad 10 o
 |x::r=>if x.1.isPrefixOf (s.drop o)then Pq x.2.1 x.2.2 o x.1.length else tY s o r
theorem afY{s:List UInt8}{o:Nat}(h:o<s.length)(a:UInt8):List.isPrefixOf [a] (s.drop o)=decide (kY s o=a.toNat):=by
 rw[aN h]
 have:kY s o=s[o].toNat:=by unfold kY;rw[aG,bf h];rfl
 rw[this]
 simp only[List.isPrefixOf,gM]
 apply bS.2
 simp only[beq_iff_eq,aL,eH]
 exact eq_comm
end Edict
namespace Go.Proofs.Z
open Go Go.Ev Edict
variable {h:H} {o:Nat} {s:List UInt8}
theorem Ez(h:o<s.length):uz s o=tY s o nG:=by
 unfold uz nG
 simp only[tY,UT,afY h,aL,au,aA]
 rfl
theorem Be{i:Nat}{l:List Sg}{x:Sg}(h:l[i]? =some x):tY s o (l.drop i)=if x.1.isPrefixOf (s.drop o)then Pq x.2.1 x.2.2 o x.1.length else tY s o (l.drop (i+1)):=by
 obtain⟨hi,rfl⟩:=aB.1 h
 rw[aN hi];rfl
theorem UG{u:U}{k:Sg}{cs:List Value}:Rep.rep u h k cs=(cs=[str k.1,Jx JT k.2.1,Jx JT k.2.2]):=by simp [lg,mG,mE]
theorem acw:Rep.sz Sg=3:=rfl
def SgG(u:U)(h:H):Prop:=0<h.size/\1<=lS h 0/\1<=u 0/\jS u h (hv h 0 0) nG
theorem SgG.mono{u u':U}{h h':H}(k:SgG u h)(g:Ge u h u' h'):SgG u' h':=by
 obtain⟨k1,k2,k3,k4⟩:=k
 refine⟨bP k1 g.sz,by rw[(g.hs _ k1).1];exact k2,aT k3 (g.up _ k1),?_⟩
 rw[g.cl _ k1 0 zO];exact k4.mono g
def UH(u:U)(h:H):Prop:=SgG u h/\UI u h
theorem UH.mono{u u':U}{h h':H}(k:UH u h)(g:Ge u h u' h'):UH u' h':=⟨k.1.mono g,k.2.mono g⟩
def acx:lq:=λf vs h K _=>(f=135/\XX vs h K)\/(f=136/\Dk vs h K)\/(f=137/\xE pg vs h K)\/(f=138/\UK vs h K)\/
 (f=139/\FC UI (λs k=>si s k (oh s k)) (λs k=>k<s.length/\pg (kY s (oh s k))=true) vs h K)\/(f=140/\xE zw vs h K)\/
 (f=141/\FC noG nP (λs k=>k<s.length/\zw (kY s k)=true) vs h K)\/(f=142/\FC noG (λs k=>og s k (k+1) []) (λs k=>k<s.length) vs h K)\/(f=143/\pU vs h K)
theorem Qi:lQ Tryz.prog acx:=lY acI (lY yK (lY uV (lY LF (lY Nu (lY FD (lY ZE (lY ZC (pX Ab))))))))
theorem acy(h:o<s.length):xw s o=if pg (kY s o)then si s o o else if kY s o=45/\pg (kY s (o+1))=true then si s o (o+1)else if zw (kY s o)then nP s o else if kY s o=34 then og s o (o+1) []else uz s o:=by
 unfold xw;rw[af zO]
theorem ZA{vs:List Value}{K:Value->H->Prop}{KP:List PanicEntry->H->Prop}(hC:FC UH oK (λ_ _=>True) vs h K):kN Tryz.prog 112 vs h K KP:=by
 obtain⟨u,B,s,k,rfl,hB,hk,hl,-,hG,hK⟩:=hC
 have hB1:=hB.1
 refine jJ 154884250268604471248487165 [((some (.c1 (.ldn 6) (.t 2))),(.o1 (.ldn 6) (.t 2))),((some (.c1 (.ldn 3) (.t 3))),(.o1 (.ldn 3) (.t 3)))] Qi Tryz.func112 ?_ (by kernel_rfl) (by apply c0 rfl;repeat' first|apply cS|apply cK|apply cL|apply cX|(apply cC zD)|(conv=>lhs;cbv;try simp only[Kw]))
 have sp:jD (λi=>i=B) u h _ _:=jD.qZ (λi=>i=B) u h jV.toArray 46
 have T0:jR (ub u h.size 0) (h.push (.cells jV.toArray 46)) h.size jV:=jR.new jV _
 have sp1:=sp.pZ (c:=(jH 0 0).toArray) (t:=27)
 have T1:=T0.pZ (c:=(jH 0 0).toArray) (t:=27)
 have F1:=jR.new (u:=ub u h.size 0) (h:=h.push (.cells jV.toArray 46)) (jH 0 0) 27
 have b1:=(hB.pZ (c:=jV.toArray) (t:=46)).pZ (c:=(jH 0 0).toArray) (t:=27)
 simp only[kw]at sp1 T1 F1 b1
 simp only[↓reduceIte,go_sem]
 obtain⟨h1,hh1⟩:=kg ((h.push (.cells jV.toArray 46)).push (.cells (jH 0 0).toArray 27))
 rw[<-hh1]at sp1 T1 F1 b1
 simp only[jV,jH]at hh1
 rw[<-hh1]
 clear sp T0 hh1
 obtain⟨u1,hu1⟩:=kg (ub (ub u h.size 0) (h.size+1) 0)
 rw[<-hu1]at sp1 T1 F1 b1
 clear hu1
 refine jC (.inl ⟨rfl,B,s,k,rfl,⟨b1.2.1,b1.2.2.1,b1.at 0 zP,b1.at 1 zP,hk,hl⟩,λj hj hg=> ?_⟩)
 have gl:=zX hk
 obtain⟨o,ho⟩:=kg ((oL s k).1)
 have st2:=sp1.setR (o:=1) (v:= Jx JT (j:Int)) (.inr rfl) (by rw[b1.2.2.2.1];exact aj _)
 have b2:Ny u1 (ky h1 B 1 (Jx JT (j:Int))) B s j:=b1.set (i:=1) (v:= Jx JT (j:Int)) zP
 have ss:=jD.set (S:=λi=>i=B) u1 h1 (o:=1) (Jx JT (j:Int)) (b:=B) rfl (by rw[b1.2.2.2.1];exact aj _)
 have T2:=T1.step ss zO
 have F2:=F1.step ss zO
 obtain⟨h2,hh2⟩:=kg (ky h1 B 1 (Jx JT (j:Int)))
 rw[<-hh2]at st2 b2 T2 F2 ⊢
 clear hh2 ss T1 F1 b1 sp1
 have G2:=hG.mono st2.ge
 have b21:=b2.1;have T21:=T2.1;have F21:=F2.1
 refine⟨jO,?_⟩
 rw[<-ho]at gl hg ⊢
 cases hg2:(oL s k).2 with
 |false=>
  have hn:oK s k= .bad 16 o:=by unfold oK;rw[hg2,<-ho];rfl
  rw[hn]at hK
  simp(disch:=omega) only[↓reduceIte,go_sem,jN]
  refine jC (.inr (.inl ⟨rfl,u1,_,16,o,rfl,λu4 h4 s4=>⟨jO,?_⟩⟩))
  have T4:=T2.sZ s4
  have F4:=F2.sZ s4
  obtain⟨r1,r2,r3,-⟩:=mO (la:=jV) (lb:=jH 16 o) (st2.tZ s4) T4 F4 zO zO zO rfl rfl
  have T41:=T4.1
  have F41:=F4.1
  simp only[jV,jH]at r1 r2 r3
  simp(disch:=first|omega|simp only[zz];try omega;done) only[↓reduceIte,go_sem,jV,jH,T4.2.1,T4.2.2.1,F4.2.1,F4.2.2.1,jP,jQ,r2.at,r3.at,r2.2.1,r3.2.1]
  exact hK _ _ r1 (λt ht=>by cases ht)
 |true=>
  have hn:oK s k=xw s o:=by unfold oK;rw[hg2,<-ho];rfl
  obtain rfl:j=o:=hg hg2
  rw[hn]at hK
  clear hn hg hg2 ho
  by_cases hend:j=s.length
  ·have ht:xw s j= .ok (0,[],0,0,j,j):=by unfold xw;rw[ah zO]
   rw[ht]at hK
   obtain⟨r1,r2,r3,r4⟩:=mO (la:=[Jx JT 0,str [],Jx JT 0,Jx JT 0,Jx JT j,Jx JT j]) (lb:=jH 0 0) st2 T2 F2 zO zO zO rfl rfl
   have b3:=r4 B _ b2 zO zO
   simp only[jH]at r1 r2 r3 b3
   have T22:=T2.2.1
   have F22:=F2.2.1
   simp only[jV,jH,au,aA]at T22 F22
   simp(disch:=first|omega|simp only[zz];try omega;done) only[↓reduceIte,go_sem,b2.at,b2.2.1,ai (show(j:Int)=(s.length:Nat) by omega),T22,T2.2.2.1,F22,F2.2.2.1,jP,jQ,r2.at,r3.at,r2.2.1,r3.2.1]
   exact hK _ _ r1 (λt ht=>by cases ht;exact b3)
  have hjl:j<s.length:=zO
  rw[acy hjl]at hK
  simp(disch:=first|omega|simp only[zz];try omega;done) only[↓reduceIte,go_sem,b2.at,b2.2.1,ae (show¬(j:Int)=(s.length:Nat) by omega),ai hjl,qD]
  refine jC (.inr (.inr (.inl ⟨rfl,kY s j,rfl,⟨jO,?_⟩⟩)))
  cases hd:pg (kY s j)with
  |true=>
   have hf:oh s j=j:=by unfold oh;rw[af (by unfold pg at hd;simp at hd;omega)]
   rw[hd,ah rfl]at hK
   simp only[↓reduceIte,go_sem,jN]
   refine jC (.inr (.inr (.inr (.inr (.inl ⟨rfl,u1,B,s,j,rfl,b2,hj,hl,⟨hjl,by rw[hf];exact hd⟩,G2.2,λu3 h3 s3 hr3=> ?_⟩)))))
   simp only[hf]at hr3 ⊢
   have st3:=st2.trans s3 (λq _ h=>h)
   have T3:=T2.step s3 zO
   have F3:=F2.step s3 zO
   have T31:=T3.1
   have F31:=F3.1
   have T32:=T3.2.1
   have F32:=F3.2.1
   simp only[jV,jH,au,aA]at T32 F32
   cases hr:si s j j with
   |ok t=>
    rw[hr]at hK hr3
    have b3:=hr3 t rfl
    obtain⟨r1,r2,r3,r4⟩:=mO (la:=kU t) (lb:=jH 0 0) st3 T3 F3 zO zO zO rfl rfl
    have b4:=r4 B _ b3 zO zO
    simp only[kU,jH]at r1 r2 r3 b4
    refine⟨jO,?_⟩
    simp only[qw,kU,jH]
    simp(disch:=first|omega|simp only[zz];try omega;done) only[↓reduceIte,go_sem,T32,T3.2.2.1,F32,F3.2.2.1,jP,jQ,r2.at,r3.at,r2.2.1,r3.2.1]
    exact hK _ _ r1 (λt' ht=>by cases ht;exact b4)
   |bad c o'=>
    rw[hr]at hK
    obtain⟨r1,r2,r3,-⟩:=mO (la:=jV) (lb:=jH c o') st3 T3 F3 zO zO zO rfl rfl
    simp only[jV,jH]at r1 r2 r3
    refine⟨jO,?_⟩
    simp only[qw,jV,jH]
    simp(disch:=first|omega|simp only[zz];try omega;done) only[↓reduceIte,go_sem,T32,T3.2.2.1,F32,F3.2.2.1,jP,jQ,r2.at,r3.at,r2.2.1,r3.2.1]
    exact hK _ _ r1 (λt' ht=>by cases ht)
  |false=>
   rw[hd]at hK
   simp only[aD,aW]at hK
   by_cases hm:kY s j=45
   ·simp only[↓reduceIte,go_sem,ai (show(kY s j:Int)=45 by omega)]
    refine jC (.inr (.inr (.inr (.inl ⟨rfl,B,s,j,1,rfl,b2.2.1,b2.at 0 zP,b2.at 1 zP,hj,hl,zO,⟨jO,?_⟩⟩))))
    simp only[↓reduceIte,go_sem,ai (show(kY s j:Int)=45 by omega)]
    refine jC (.inr (.inr (.inl ⟨rfl,kY s (j+1),rfl,⟨jO,?_⟩⟩)))
    cases hd1:pg (kY s (j+1))with
    |true=>
     have hf:oh s j=j+1:=by unfold oh;rw[ah hm]
     rw[ah ⟨hm,hd1⟩]at hK
     simp only[↓reduceIte,go_sem,ai (show(kY s j:Int)=45 by omega)]
     refine jC (.inr (.inr (.inr (.inr (.inl ⟨rfl,u1,B,s,j,rfl,b2,hj,hl,⟨hjl,by rw[hf];exact hd1⟩,G2.2,λu3 h3 s3 hr3=> ?_⟩)))))
     simp only[hf]at hr3 ⊢
     have st3:=st2.trans s3 (λq _ h=>h)
     have T3:=T2.step s3 zO
     have F3:=F2.step s3 zO
     have T31:=T3.1
     have F31:=F3.1
     have T32:=T3.2.1
     have F32:=F3.2.1
     simp only[jV,jH,au,aA]at T32 F32
     cases hr:si s j (j+1)with
     |ok t=>
      rw[hr]at hK hr3
      have b3:=hr3 t rfl
      obtain⟨r1,r2,r3,r4⟩:=mO (la:=kU t) (lb:=jH 0 0) st3 T3 F3 zO zO zO rfl rfl
      have b4:=r4 B _ b3 zO zO
      simp only[kU,jH]at r1 r2 r3 b4
      refine⟨jO,?_⟩
      simp only[qw,kU,jH]
      simp(disch:=first|omega|simp only[zz];try omega;done) only[↓reduceIte,go_sem,T32,T3.2.2.1,F32,F3.2.2.1,jP,jQ,r2.at,r3.at,r2.2.1,r3.2.1]
      exact hK _ _ r1 (λt' ht=>by cases ht;exact b4)
     |bad c o'=>
      rw[hr]at hK
      obtain⟨r1,r2,r3,-⟩:=mO (la:=jV) (lb:=jH c o') st3 T3 F3 zO zO zO rfl rfl
      simp only[jV,jH]at r1 r2 r3
      refine⟨jO,?_⟩
      simp only[qw,jV,jH]
      simp(disch:=first|omega|simp only[zz];try omega;done) only[↓reduceIte,go_sem,T32,T3.2.2.1,F32,F3.2.2.1,jP,jQ,r2.at,r3.at,r2.2.1,r3.2.1]
      exact hK _ _ r1 (λt' ht=>by cases ht)
    |false=>
     have hw:zw (kY s j)=false:=by rw[hm];decide
     rw[af (by rw[hd1];simp),hw]at hK
     simp only[aD,aW]at hK
     rw[af zO]at hK
     simp only[↓reduceIte,go_sem,ai (show(kY s j:Int)=45 by omega)]
     refine jC (.inr (.inr (.inr (.inr (.inr (.inl ⟨rfl,kY s j,rfl,⟨jO,?_⟩⟩))))))
     rw[hw]
     simp only[↓reduceIte,go_sem,ae (show¬(kY s j:Int)=34 by omega)]
     rw[Ez hjl]at hK
     obtain⟨g1,g2,g3,g4⟩:=G2.1
     obtain⟨sa,sc,hse,-,-⟩:=g4.sl
     simp only[go_sem,hse,ai (show 0<lS h2 0 by omega),show nG.length=11 from rfl]
     obtain⟨I,hI⟩:=kg (α:=Nat->ku->H->Prop) λi σ h'=>σ 0= .pointer (some ⟨B,0,none⟩)/\σ 2= .pointer (some ⟨h.size,0,none⟩)/\σ 3= .pointer (some ⟨h.size+1,0,none⟩)/\σ 6= Jx JT j/\σ 73= .slice sa 11 sc/\σ 74= Jx JT 11/\σ 75= Jx JT i/\i<=11/\tY s j nG=tY s j (nG.drop i)/\
       ∃u',jD (λi=>i=B) u h u' h'/\Ny u' h' B s j/\jR u' h' h.size jV/\jR u' h' (h.size+1) (jH 0 0)/\jS u' h' (.slice sa 11 sc) nG
     refine jE I (λi=>11 - i) 0 (by
      rw[hI]
      exact⟨zJ,zJ,zJ,zJ,zJ,zJ,zJ,zO,rfl,u1,st2,b2,T2,F2,by rw[hse]at g4;exact g4⟩) ?_
     clear st2 b2 T2 F2 G2 g1 g2 g3 g4 b21 T21 F21
     intro i σ h' hy
     rw[hI]at hy
     obtain⟨e0,e2,e3,e6,e73,e74,e75,hi,hfd,u',st,b,T,F,hs⟩:=hy
     have b01:=b.1;have T01:=T.1;have F01:=F.1
     by_cases hlt:i<11
     ·obtain⟨x,hx⟩: ∃x,nG[i]? =some x:=⟨nG[i]'hlt,bf hlt⟩
      obtain⟨pb,po,rfl,hpb,hpu,hpz,hpr⟩:=hs.row i x hx
      rw[UG]at hpr
      simp only[acw,uq,ax,aC]at hpr hpu hpz
      obtain⟨p0,p1,p2⟩:=hpr
      have hx11:x.1.length<=2:=by
       have: ∀y∈nG,y.1.length<=2:=zD
       exact this x (aF hx)
      rw[hfd,Be hx]at hK
      simp(disch:=first|omega|simp only[zz];try omega;done) only[↓reduceIte,go_sem,e0,e6,e73,e74,e75,ai (show(i:Int)<11 by omega),p0,p1,p2,b.at,b.2.1,ai (show j<=s.length by omega)]
      refine jC (.inr (.inr (.inr (.inr (.inr (.inr (.inr (.inr ⟨rfl,s.drop j,x.1,rfl,by rw[bY];omega,zO,⟨jO,?_⟩⟩))))))))
      cases hp:x.1.isPrefixOf (s.drop j)with
      |true=>
       rw[hp,ah rfl]at hK
       have hpl:=(eZ.1 hp).length_le
       rw[bY]at hpl
       have st3:=st.setR (o:=1) (v:= Jx JT ((j+x.1.length:Nat):Int)) (.inr rfl) (by rw[b.2.2.2.1];exact aj _)
       have b3:Ny u' (ky h' B 1 (Jx JT ((j+x.1.length:Nat):Int))) B s (j+x.1.length):=b.set (i:=1) (v:= Jx JT ((j+x.1.length:Nat):Int)) zP
       have ss:=jD.set (S:=λi=>i=B) u' h' (o:=1) (Jx JT ((j+x.1.length:Nat):Int)) (b:=B) rfl (by rw[b.2.2.2.1];exact aj _)
       have T3:=T.step ss zO
       have F3:=F.step ss zO
       obtain⟨r1,r2,r3,r4⟩:=mO (la:=[Jx JT x.2.1,str [],Jx JT 0,Jx JT x.2.2,Jx JT j,Jx JT ((j+x.1.length:Nat):Int)]) (lb:=jH 0 0) st3 T3 F3 zO zO zO rfl rfl
       have b4:=r4 B _ b3 zO zO
       have T31:=T3.1;have F31:=F3.1;have b31:=b3.1;have r21:=r2.1;have r31:=r3.1
       have q1:(ky h' B 1 (Jx JT ((j+x.1.length:Nat):Int))).size=h'.size:=wS
       have q2:(jW (ky h' B 1 (Jx JT ((j+x.1.length:Nat):Int))) h.size 0 [Jx JT x.2.1,str [],Jx JT 0,Jx JT x.2.2,Jx JT j,Jx JT ((j+x.1.length:Nat):Int)]).size=h'.size:=by rw[lI,wS]
       have T32:=T3.2.1
       have F32:=F3.2.1
       simp only[jV,jH,au,aA]at r1 r2 r3 b4 T32 F32 r21 r31
       have ej:((j:Int)+(x.1.length:Nat))=((j+x.1.length:Nat):Int):=zO
       simp(disch:=first|omega|simp only[zz];try omega;done) only[↓reduceIte,go_sem,e0,e2,e3,e6,ej,b.2.1,b.2.2.1,b3.at,b3.2.1,T32,T3.2.2.1,F32,F3.2.2.1,jP,jQ,r2.at,r3.at,r2.2.1,r3.2.1]
       exact hK _ _ r1.pZ (λt ht=>by cases ht;exact b4.pZ)
      |false=>
       rw[hp]at hK
       simp only[aD,aW]at hK
       have hfd':=hfd
       rw[Be hx,hp]at hfd'
       simp only[aD,aW]at hfd'
       simp(disch:=omega) only[↓reduceIte,go_sem,e75]
       refine⟨i+1,?_,zO⟩
       rw[hI]
       exact⟨by simp [jI,e0],by simp [jI,e2],by simp [jI,e3],by simp [jI,e6],by simp [jI,e73],by simp [jI,e74],zJ,zO,hfd',_,st.pZ,b.pZ,T.pZ,F.pZ,hs.mono (jD.qZ S0 u' h' _ _).ge⟩
     ·obtain rfl:i=11:=zO
      have hbad:tY s j nG= .bad 10 j:=hfd
      rw[hbad]at hK
      simp only[↓reduceIte,go_sem,e0,e6,e74,e75]
      refine jC (.inr (.inl ⟨rfl,u',_,10,j,rfl,λu4 h4 s4=>⟨jO,?_⟩⟩))
      have T4:=T.sZ s4
      have F4:=F.sZ s4
      obtain⟨r1,r2,r3,-⟩:=mO (la:=jV) (lb:=jH 10 j) (st.tZ s4) T4 F4 zO zO zO rfl rfl
      have T41:=T4.1
      have F41:=F4.1
      simp only[jV,jH]at r1 r2 r3
      simp(disch:=first|omega|simp only[zz];try omega;done) only[↓reduceIte,go_sem,e2,e3,jV,jH,T4.2.1,T4.2.2.1,F4.2.1,F4.2.2.1,jP,jQ,r2.at,r3.at,r2.2.1,r3.2.1]
      exact hK _ _ r1 (λt ht=>by cases ht)
   ·rw[af (λh=>hm h.1)]at hK
    simp only[↓reduceIte,go_sem,ae (show¬(kY s j:Int)=45 by omega)]
    refine jC (.inr (.inr (.inr (.inr (.inr (.inl ⟨rfl,kY s j,rfl,⟨jO,?_⟩⟩))))))
    cases hw:zw (kY s j)with
    |true=>
     rw[hw,ah rfl]at hK
     simp only[↓reduceIte,go_sem,jN]
     refine jC (.inr (.inr (.inr (.inr (.inr (.inr (.inl ⟨rfl,u1,B,s,j,rfl,b2,hj,hl,⟨hjl,hw⟩,trivial,λu3 h3 s3 hr3=> ?_⟩)))))))
     have st3:=st2.trans s3 (λq _ h=>h)
     have T3:=T2.step s3 zO
     have F3:=F2.step s3 zO
     have T31:=T3.1
     have F31:=F3.1
     have T32:=T3.2.1
     have F32:=F3.2.1
     simp only[jV,jH,au,aA]at T32 F32
     cases hr:nP s j with
     |ok t=>
      rw[hr]at hK hr3
      have b3:=hr3 t rfl
      obtain⟨r1,r2,r3,r4⟩:=mO (la:=kU t) (lb:=jH 0 0) st3 T3 F3 zO zO zO rfl rfl
      have b4:=r4 B _ b3 zO zO
      simp only[kU,jH]at r1 r2 r3 b4
      refine⟨jO,?_⟩
      simp only[qw,kU,jH]
      simp(disch:=first|omega|simp only[zz];try omega;done) only[↓reduceIte,go_sem,T32,T3.2.2.1,F32,F3.2.2.1,jP,jQ,r2.at,r3.at,r2.2.1,r3.2.1]
      exact hK _ _ r1 (λt' ht=>by cases ht;exact b4)
     |bad c o'=>
      rw[hr]at hK
      obtain⟨r1,r2,r3,-⟩:=mO (la:=jV) (lb:=jH c o') st3 T3 F3 zO zO zO rfl rfl
      simp only[jV,jH]at r1 r2 r3
      refine⟨jO,?_⟩
      simp only[qw,jV,jH]
      simp(disch:=first|omega|simp only[zz];try omega;done) only[↓reduceIte,go_sem,T32,T3.2.2.1,F32,F3.2.2.1,jP,jQ,r2.at,r3.at,r2.2.1,r3.2.1]
      exact hK _ _ r1 (λt' ht=>by cases ht)
    |false=>
     rw[hw]at hK
     simp only[aD,aW]at hK
     by_cases hq:kY s j=34
     ·rw[ah hq]at hK
      simp only[↓reduceIte,go_sem,ai (show(kY s j:Int)=34 by omega)]
      refine jC (.inr (.inr (.inr (.inr (.inr (.inr (.inr (.inl ⟨rfl,u1,B,s,j,rfl,b2,hj,hl,hjl,trivial,λu3 h3 s3 hr3=> ?_⟩))))))))
      simp only at hr3 ⊢
      have st3:=st2.trans s3 (λq _ h=>h)
      have T3:=T2.step s3 zO
      have F3:=F2.step s3 zO
      have T31:=T3.1
      have F31:=F3.1
      have T32:=T3.2.1
      have F32:=F3.2.1
      simp only[jV,jH,au,aA]at T32 F32
      cases hr:og s j (j+1) []with
      |ok t=>
       rw[hr]at hK hr3
       have b3:=hr3 t rfl
       obtain⟨r1,r2,r3,r4⟩:=mO (la:=kU t) (lb:=jH 0 0) st3 T3 F3 zO zO zO rfl rfl
       have b4:=r4 B _ b3 zO zO
       simp only[kU,jH]at r1 r2 r3 b4
       refine⟨jO,?_⟩
       simp only[qw,kU,jH]
       simp(disch:=first|omega|simp only[zz];try omega;done) only[↓reduceIte,go_sem,T32,T3.2.2.1,F32,F3.2.2.1,jP,jQ,r2.at,r3.at,r2.2.1,r3.2.1]
       exact hK _ _ r1 (λt' ht=>by cases ht;exact b4)
      |bad c o'=>
       rw[hr]at hK
       obtain⟨r1,r2,r3,-⟩:=mO (la:=jV) (lb:=jH c o') st3 T3 F3 zO zO zO rfl rfl
       simp only[jV,jH]at r1 r2 r3
       refine⟨jO,?_⟩
       simp only[qw,jV,jH]
       simp(disch:=first|omega|simp only[zz];try omega;done) only[↓reduceIte,go_sem,T32,T3.2.2.1,F32,F3.2.2.1,jP,jQ,r2.at,r3.at,r2.2.1,r3.2.1]
       exact hK _ _ r1 (λt' ht=>by cases ht)
     ·rw[af hq]at hK
      simp only[↓reduceIte,go_sem,ae (show¬(kY s j:Int)=34 by omega)]
      rw[Ez hjl]at hK
      obtain⟨g1,g2,g3,g4⟩:=G2.1
      obtain⟨sa,sc,hse,-,-⟩:=g4.sl
      simp only[go_sem,hse,ai (show 0<lS h2 0 by omega),show nG.length=11 from rfl]
      obtain⟨I,hI⟩:=kg (α:=Nat->ku->H->Prop) λi σ h'=>σ 0= .pointer (some ⟨B,0,none⟩)/\σ 2= .pointer (some ⟨h.size,0,none⟩)/\σ 3= .pointer (some ⟨h.size+1,0,none⟩)/\σ 6= Jx JT j/\σ 73= .slice sa 11 sc/\σ 74= Jx JT 11/\σ 75= Jx JT i/\i<=11/\tY s j nG=tY s j (nG.drop i)/\
        ∃u',jD (λi=>i=B) u h u' h'/\Ny u' h' B s j/\jR u' h' h.size jV/\jR u' h' (h.size+1) (jH 0 0)/\jS u' h' (.slice sa 11 sc) nG
      refine jE I (λi=>11 - i) 0 (by
       rw[hI]
       exact⟨zJ,zJ,zJ,zJ,zJ,zJ,zJ,zO,rfl,u1,st2,b2,T2,F2,by rw[hse]at g4;exact g4⟩) ?_
      clear st2 b2 T2 F2 G2 g1 g2 g3 g4 b21 T21 F21
      intro i σ h' hy
      rw[hI]at hy
      obtain⟨e0,e2,e3,e6,e73,e74,e75,hi,hfd,u',st,b,T,F,hs⟩:=hy
      have b01:=b.1;have T01:=T.1;have F01:=F.1
      by_cases hlt:i<11
      ·obtain⟨x,hx⟩: ∃x,nG[i]? =some x:=⟨nG[i]'hlt,bf hlt⟩
       obtain⟨pb,po,rfl,hpb,hpu,hpz,hpr⟩:=hs.row i x hx
       rw[UG]at hpr
       simp only[acw,uq,ax,aC]at hpr hpu hpz
       obtain⟨p0,p1,p2⟩:=hpr
       have hx11:x.1.length<=2:=by
        have: ∀y∈nG,y.1.length<=2:=zD
        exact this x (aF hx)
       rw[hfd,Be hx]at hK
       simp(disch:=first|omega|simp only[zz];try omega;done) only[↓reduceIte,go_sem,e0,e6,e73,e74,e75,ai (show(i:Int)<11 by omega),p0,p1,p2,b.at,b.2.1,ai (show j<=s.length by omega)]
       refine jC (.inr (.inr (.inr (.inr (.inr (.inr (.inr (.inr ⟨rfl,s.drop j,x.1,rfl,by rw[bY];omega,zO,⟨jO,?_⟩⟩))))))))
       cases hp:x.1.isPrefixOf (s.drop j)with
       |true=>
        rw[hp,ah rfl]at hK
        have hpl:=(eZ.1 hp).length_le
        rw[bY]at hpl
        have st3:=st.setR (o:=1) (v:= Jx JT ((j+x.1.length:Nat):Int)) (.inr rfl) (by rw[b.2.2.2.1];exact aj _)
        have b3:Ny u' (ky h' B 1 (Jx JT ((j+x.1.length:Nat):Int))) B s (j+x.1.length):=b.set (i:=1) (v:= Jx JT ((j+x.1.length:Nat):Int)) zP
        have ss:=jD.set (S:=λi=>i=B) u' h' (o:=1) (Jx JT ((j+x.1.length:Nat):Int)) (b:=B) rfl (by rw[b.2.2.2.1];exact aj _)
        have T3:=T.step ss zO
        have F3:=F.step ss zO
        obtain⟨r1,r2,r3,r4⟩:=mO (la:=[Jx JT x.2.1,str [],Jx JT 0,Jx JT x.2.2,Jx JT j,Jx JT ((j+x.1.length:Nat):Int)]) (lb:=jH 0 0) st3 T3 F3 zO zO zO rfl rfl
        have b4:=r4 B _ b3 zO zO
        have T31:=T3.1;have F31:=F3.1;have b31:=b3.1;have r21:=r2.1;have r31:=r3.1
        have q1:(ky h' B 1 (Jx JT ((j+x.1.length:Nat):Int))).size=h'.size:=wS
        have q2:(jW (ky h' B 1 (Jx JT ((j+x.1.length:Nat):Int))) h.size 0 [Jx JT x.2.1,str [],Jx JT 0,Jx JT x.2.2,Jx JT j,Jx JT ((j+x.1.length:Nat):Int)]).size=h'.size:=by rw[lI,wS]
        have T32:=T3.2.1
        have F32:=F3.2.1
        simp only[jV,jH,au,aA]at r1 r2 r3 b4 T32 F32 r21 r31
        have ej:((j:Int)+(x.1.length:Nat))=((j+x.1.length:Nat):Int):=zO
        simp(disch:=first|omega|simp only[zz];try omega;done) only[↓reduceIte,go_sem,e0,e2,e3,e6,ej,b.2.1,b.2.2.1,b3.at,b3.2.1,T32,T3.2.2.1,F32,F3.2.2.1,jP,jQ,r2.at,r3.at,r2.2.1,r3.2.1]
        exact hK _ _ r1.pZ (λt ht=>by cases ht;exact b4.pZ)
       |false=>
        rw[hp]at hK
        simp only[aD,aW]at hK
        have hfd':=hfd
        rw[Be hx,hp]at hfd'
        simp only[aD,aW]at hfd'
        simp(disch:=omega) only[↓reduceIte,go_sem,e75]
        refine⟨i+1,?_,zO⟩
        rw[hI]
        exact⟨by simp [jI,e0],by simp [jI,e2],by simp [jI,e3],by simp [jI,e6],by simp [jI,e73],by simp [jI,e74],zJ,zO,hfd',_,st.pZ,b.pZ,T.pZ,F.pZ,hs.mono (jD.qZ S0 u' h' _ _).ge⟩
      ·obtain rfl:i=11:=zO
       have hbad:tY s j nG= .bad 10 j:=hfd
       rw[hbad]at hK
       simp only[↓reduceIte,go_sem,e0,e6,e74,e75]
       refine jC (.inr (.inl ⟨rfl,u',_,10,j,rfl,λu4 h4 s4=>⟨jO,?_⟩⟩))
       have T4:=T.sZ s4
       have F4:=F.sZ s4
       obtain⟨r1,r2,r3,-⟩:=mO (la:=jV) (lb:=jH 10 j) (st.tZ s4) T4 F4 zO zO zO rfl rfl
       have T41:=T4.1
       have F41:=F4.1
       simp only[jV,jH]at r1 r2 r3
       simp(disch:=first|omega|simp only[zz];try omega;done) only[↓reduceIte,go_sem,e2,e3,jV,jH,T4.2.1,T4.2.2.1,F4.2.1,F4.2.2.1,jP,jQ,r2.at,r3.at,r2.2.1,r3.2.1]
       exact hK _ _ r1 (λt ht=>by cases ht)
end Go.Proofs.Z
namespace Edict
variable {c:Int} {o p:Nat} {s:List UInt8}
def DF(go:Nat->Bool)(fl:Int×Nat):Nat->List kR->Nat×Int×Nat
 |i,[]=>(i,fl)
 |i,_::r=>if go i then DF go fl (i+1) r else(i+1,0,0)
theorem Ct{s:List UInt8}{o i:Nat}{acc:List UInt8}{c:Int}{p:Nat}(h:og s o i acc= .bad c p):c≠0:=by
 unfold og at h
 split at h
 ·split at h
  ·cases h
  ·split at h
   ·split at h
    ·cases h;decide
    ·split at h
     ·cases h;decide
     ·exact Ct h
   ·split at h
    ·cases h;decide
    ·exact Ct h
 ·cases h;decide
termination_by s.length - i
decreasing_by all_goals first|omega|(have:=Dm s i;omega)
theorem IZ{b:Nat}(h:si s o b= .bad c p):c≠0:=by
 unfold si at h
 repeat' split at h
 all_goals first|(cases h;done)|(cases h;decide)
theorem QG(h:nP s o= .bad c p):c≠0:=by
 unfold nP at h
 repeat' split at h
 all_goals first|(cases h;done)|(cases h;decide)
theorem FH{s:List UInt8}{o:Nat}{c:Int}{p:Nat}: ∀{l:List Sg},tY s o l= .bad c p->c≠0
 |[],h=>by cases h;decide
 |x::r,h=>by
  unfold tY at h
  split at h
  ·cases h
  ·exact FH h
end Edict
namespace Go.Ev
open Go
section
variable {h:H}
theorem Vs{fn:Fn}{a b:Array Value}{neg:Bool}:v2 (.eqn .func neg) (.func fn a b) .nilFunc h= .bool neg:=by cases neg<;>simp [v2,uT]
theorem agi{fn:Fn}{a b:Array Value}{neg:Bool}:s2 (.eqn .func neg) (.func fn a b) .nilFunc h=True:=by simp [s2,uT]
theorem Yl{neg:Bool}:v2 (.eqn .func neg) .nilFunc .nilFunc h= .bool (!neg):=by cases neg<;>simp [v2,uT]
theorem QH{neg:Bool}:s2 (.eqn .func neg) .nilFunc .nilFunc h=True:=by simp [s2,uT]
end
end Go.Ev
namespace Go.Proofs.Z
open Go Go.Ev Edict
variable {Y:lq} {c:Int} {p:Nat} {s:List UInt8}
theorem Ja{o:Nat}(h:xw s o= .bad c p):c≠0:=by
 unfold xw at h
 split at h
 ·cases h
 ·rename_i ho
  split at h
  ·exact IZ h
  ·split at h
   ·exact IZ h
   ·split at h
    ·exact QG h
    ·split at h
     ·exact Ct h
     ·rw[Ez zO]at h;exact FH h
theorem QI{k:Nat}(h:oK s k= .bad c p):c≠0:=by
 unfold oK at h
 split at h
 ·exact Ja h
 ·cases h;decide
def ac4(Y:lq)(vs:List Value)(h:H)(K:Value->H->Prop):Prop:= ∃(u:U) (s:List UInt8) (fv:Value) (go:Nat->Bool) (O:Nat->Prop) (Inv:Nat->(Nat->Prop)->U->H->Prop),vs=[str s,fv]/\s.length<=9223372036854775807/\UH u h/\Inv 0 O u h/\
 (∀i O u1 h1,Inv i O u1 h1-> ∀b,O b->b<h1.size)/\
 (∀i O T u1 h1 u2 h2,Inv i O u1 h1->jD T u1 h1 u2 h2->(∀b,O b-> ¬T b)->Inv i O u2 h2)/\
 ((fv= .nilFunc/\(∀i,go i=true)/\ ∀i O u1 h1,Inv i O u1 h1->Inv (i+1) O u1 h1)\/ ∃g cap,fv= .func (.func g) #[] (List.toArray cap)/\
  ∀(i:Nat) (t:kR) O u1 h1 Q QP,(ll s).1[i]? =some t->Inv i O u1 h1->UH u1 h1->(∀O2 u2 h2,jD O u1 h1 u2 h2->Inv (i+1) O2 u2 h2->(∀b,O2 b->O b\/h1.size<=b)->Q (.bool (go i)) h2)->Y g (.agg (kU t).toArray::cap) h1 Q QP)/\
 ∀u' h' O' m c o,jD O u h u' h'->Inv m O' u' h'->(∀b,O' b->O b\/h.size<=b)->DF go (ll s).2 0 (ll s).1=(m,c,o)->K (.agg (jH c o).toArray) h'
def QJ(Y:lq):lq:=λf vs h K KP=>(f=112/\FC UH oK (λ_ _=>True) vs h K)\/Y f vs h K KP
theorem QK(hY:lQ Tryz.prog Y):lQ Tryz.prog (QJ Y):=by
 rintro f vs h K KP (⟨rfl,hC⟩|hC)
 ·exact ZA hC
 ·exact hY _ _ _ _ _ hC
theorem ZN(hY:lQ Tryz.prog Y){vs:List Value}{h:H}{K:Value->H->Prop}{KP:List PanicEntry->H->Prop}(hC:ac4 Y vs h K):kN Tryz.prog 89 vs h K KP:=by
 obtain⟨u,s,fv,go,S,Inv,rfl,hmax,hG,hI0,hIlt,tJ,hY2,hK⟩:=hC
 have hS:=hIlt 0 S u h hI0
 refine jJ 36511417587 [((some (.c1 (.ldn 3) (.t 4))),(.o1 (.ldn 3) (.t 4)))] (G:=(QJ Y)) (QK hY) Tryz.func89 ?_
 by_cases hl:65536<s.length
 ·have hsc:ll s=([],1,0):=by unfold ll;rw[ah hl]
  rw[hsc]at hK
  simp(disch:=omega) only[↓reduceIte,go_sem,ai (show(65536:Int)<(s.length:Nat) by omega)]
  exact hK _ _ S 0 1 0 (jD.qZ S u h _ _) (tJ 0 S S0 _ _ _ _ hI0 (jD.qZ _ u h _ _) (λ_ _ h=>h)) (λ_ h=> .inl h) rfl
 have hsc:ll s=mH s 0:=by unfold ll;rw[af hl];rfl
 rw[hsc]at hK hY2
 have R1:=jR.new (u:=u) (h:=h) (jH 0 0) 27
 have R2:=R1.pZ (c:= #[str s,Jx JT 0]) (t:=198)
 have b2:=jR.new (u:=ub u h.size 0) (h:=h.push (.cells (jH 0 0).toArray 27)) [str s,Jx JT ((0:Nat):Int)] 198
 have st2:=((jD.refl S u h).pZ (c:=(jH 0 0).toArray) (t:=27)).pZ (c:= #[str s,Jx JT 0]) (t:=198)
 have sf2:=((jD.refl S0 u h).pZ (c:=(jH 0 0).toArray) (t:=27)).pZ (c:= #[str s,Jx JT 0]) (t:=198)
 have hI2:=tJ 0 S S0 _ _ _ _ hI0 sf2 (λ_ _ h=>h)
 simp only[kw,jH]at R2 b2 st2 hI2
 simp only[↓reduceIte,go_sem,ae (show¬(65536:Int)<(s.length:Nat) by omega)]
 obtain⟨I,hI⟩:=kg (α:=Nat×Nat->ku->H->Prop) λx σ h'=>σ 1=fv/\σ 4= .pointer (some ⟨h.size,0,none⟩)/\σ 5= .pointer (some ⟨h.size+1,0,none⟩)/\x.1<=s.length/\
   (∃oV,oV.length=x.2/\(mH s 0).1=oV++(mH s x.1).1)/\DF go (mH s 0).2 0 (mH s 0).1=DF go (mH s x.1).2 x.2 (mH s x.1).1/\
   ∃u' O,jD S u h u' h'/\Ny u' h' (h.size+1) s x.1/\jR u' h' h.size (jH 0 0)/\Inv x.2 O u' h'/\(∀b,O b->S b\/h.size+2<=b)
 refine jE I (λx=>s.length - x.1) (0,0) (by
  rw[hI]
  exact⟨zJ,zJ,zJ,zP,⟨[],rfl,rfl⟩,rfl,_,S,st2,b2,R2,hI2,λ_ h=> .inl h⟩) ?_
 clear R1 R2 b2 st2 sf2 hI2
 rintro ⟨k,i⟩ σ h1 hy
 rw[hI]at hy
 obtain⟨e1,e4,e5,hk,⟨oV,hpl,hpre⟩,hef,u1,O,st,b,R,hInv,hO⟩:=hy
 simp only at hk hpl hpre hef b hInv
 have b01:=b.1;have R01:=R.1
 have hG1:=hG.mono st.ge
 have hOn: ∀b,O b->b≠h.size/\b≠h.size+1:=λb hb=>by
  rcases hO b hb with q|q
  ·have:=hS b q;omega
  ·omega
 simp only[go_sem,e5]
 refine jC (.inl ⟨rfl,u1,_,s,k,rfl,b,hk,zO,trivial,hG1,λu3 h3 s3 hr3=> ?_⟩)
 have hI3:=tJ i O _ _ _ _ _ hInv s3 (λb hb hq=>(hOn b hb).2 hq)
 have R3:=R.step s3 zO
 have st3:=st.trans s3 (λq _ h=>zO)
 have hlt3:=hIlt i O _ _ hI3
 have R31:=R3.1
 have R32:=R3.2.1
 simp only[jH,au,aA]at R32
 -- the result's block is written, and all is over
 have fin: ∀(u4:U) (h4:H) (O4:Nat->Prop) (m:Nat) (c:Int) (o:Nat) (oi:Int),oi=(o:Int)->jD S u h u4 h4->jR u4 h4 h.size (jH 0 0)->Inv m O4 u4 h4->(∀b,O4 b->S b\/h.size+2<=b)->DF go (mH s 0).2 0 (mH s 0).1=(m,c,o)->
   (jW h4 h.size 0 (jH c oi)).size=h4.size/\jR u4 (jW h4 h.size 0 (jH c oi)) h.size (jH c oi)/\ ∀u5 h5,jD S0 u4 (jW h4 h.size 0 (jH c oi)) u5 h5->K (.agg (jH c oi).toArray) h5:=by
  intro u4 h4 O4 m c o oi ho q1 q2 q3 q5 q4
  subst ho
  have w1:=q1.rZ (b:=h.size) (o:=0) (l:=jH c o) (.inl (ak _)) (by rw[q2.2.2.2.1];exact aj _) (by rw[q2.2.1];exact ak _)
  have w2:=jD.sets (S:=λb=>b=h.size) u4 h4 (b:=h.size) (o:=0) (jH c o) rfl (by rw[q2.2.2.2.1];exact aj _) (by rw[q2.2.1];exact ak _)
  have hq: ∀b,O4 b-> ¬b=h.size:=λb hb e=>by
   rcases q5 b hb with q|q
   ·have:=hS b q;omega
   ·omega
  exact⟨lI _ _ _ _,q2.sets rfl,λu5 h5 s5=>hK _ _ O4 m c o (w1.tZ s5) (tJ m O4 _ _ _ _ _ q3 (w2.tZ s5) hq) (λb hb=>(q5 b hb).imp id λq=>zO) q4⟩
 cases hn:oK s k with
 |bad c o=>
  have hc:=QI hn
  rw[xR hn]at hef
  obtain⟨f0,f1,f2⟩:=fin _ _ O i c o o rfl st3 R3 hI3 hO hef
  refine⟨jO,?_⟩
  simp only[qw,jV,jH]
  simp only[jH]at f0 f1 f2
  have f11:=f1.1
  simp(disch:=first|omega|simp only[zz];try omega;done) only[↓reduceIte,go_sem,e4,ae (show¬c=0 from hc),R32,R3.2.2.1,f1.at,f1.2.1]
  exact f2 _ _ zT
 |ok t=>
  obtain⟨tc,tv,tn,tp,to,te,rfl,q1,q2,q3,q4⟩:=wW hk hn
  obtain⟨t,ht⟩:=kg (α:=kR) ((tc,tv,tn,tp,(to:Int),(te:Int)))
  have b3:=hr3 _ hn
  simp only[dH]at b3
  have hsk:mH s k=(t::(if tc=0 then []else(mH s te).1),if tc=0 then(0,0)else(mH s te).2):=by
   by_cases h0:tc=0
   ·rw[xS hn h0,ah h0,ah h0,ht]
   ·rw[zZ hk hn h0,af h0,af h0,ht];rfl
  have hti:(mH s 0).1[i]? =some t:=by rw[hpre,hsk,<-hpl];simp
  rw[hsk]at hef
  have hef2:DF go (mH s 0).2 0 (mH s 0).1=if go i then DF go (if tc=0 then(0,0)else(mH s te).2) (i+1) (if tc=0 then []else(mH s te).1)else(i+1,0,0):=hef
  have T4:=(jR.new (u:=u3) (h:=h3) (kU t) 46).pZ (c:=(jH 0 0).toArray) (t:=27)
  have R4:=(R3.pZ (c:=(kU t).toArray) (t:=46)).pZ (c:=(jH 0 0).toArray) (t:=27)
  have b4:=(b3.pZ (c:=(kU t).toArray) (t:=46)).pZ (c:=(jH 0 0).toArray) (t:=27)
  have st4:=(st3.pZ (c:=(kU t).toArray) (t:=46)).pZ (c:=(jH 0 0).toArray) (t:=27)
  have sp4:=((jD.refl S0 u3 h3).pZ (c:=(kU t).toArray) (t:=46)).pZ (c:=(jH 0 0).toArray) (t:=27)
  have hI4:=tJ i O _ _ _ _ _ hI3 sp4 (λ_ _ h=>h)
  refine⟨jO,?_⟩
  obtain⟨h4,hh4⟩:=kg ((h3.push (.cells (kU t).toArray 46)).push (.cells (jH 0 0).toArray 27))
  have hs4:h4.size=h3.size+2:=by rw[hh4];simp
  obtain⟨u4,hu4⟩:=kg (ub (ub u3 h3.size 0) (h3.size+1) 0)
  simp only[kw]at T4 R4 b4 st4 sp4 hI4
  rw[<-hh4,<-hu4]at T4 R4 b4 st4 sp4 hI4
  have G4:=hG.mono st4.ge
  -- behind the yield
  have tail: ∀(σ':ku) (O5:Nat->Prop) (u5:U) (h5:H),σ' 1=fv->σ' 4= .pointer (some ⟨h.size,0,none⟩)->σ' 5= .pointer (some ⟨h.size+1,0,none⟩)->σ' 6= .pointer (some ⟨h3.size,0,none⟩)->jD O u4 h4 u5 h5->Inv (i+1) O5 u5 h5->(∀b,O5 b->O b\/h4.size<=b)->
    jR u5 h5 h3.size (kU t)/\Ny u5 h5 (h.size+1) s te/\jR u5 h5 h.size (jH 0 0)/\jD S u h u5 h5/\(∀b,O5 b->S b\/h.size+2<=b):=by
   intro σ' O5 u5 h5 w1 w4 w5 w6 s5 i5 o5
   have hn3: ∀b,O b->b<h3.size:=hlt3
   refine⟨T4.step s5 (λhq=>by have:=hn3 _ hq;omega),b4.step s5 (λhq=>(hOn _ hq).2 rfl),R4.step s5 (λhq=>(hOn _ hq).1 rfl),st4.trans s5 (λb hb hq=> ?_),λb hb=> ?_⟩
   ·rcases hO b hq with q|q
    ·exact q
    ·omega
   ·rcases o5 b hb with q|q
    ·exact hO b q
    ·have:=st3.ge.sz;omega
  simp only[qw,kU,jH]at hh4 ⊢
  simp only[ht]at hh4 ⊢
  simp(disch:=first|omega|simp only[zz];try omega;done) only[↓reduceIte,go_sem,e1,e4]
  rw[<-hh4]
  subst ht
  rcases hY2 with⟨rfl,hgoT,hIn⟩|⟨g,cap,rfl,hYY⟩
  ·have hgo:=hgoT i
   have i5:=hIn i O _ _ hI3
   have i6:=hIn i O _ _ hI4
   subst hh4
   by_cases h0:tc=0
   ·rw[ah hgo,ah h0,ah h0]at hef2
    obtain⟨f0,f1,f2⟩:=fin _ _ O (i+1) 0 0 0 rfl st3 R3 i5 hO hef2
    simp only[jH]at f0 f1 f2
    have f11:=f1.1
    simp(disch:=first|omega|simp only[zz];try omega;done) only[go_sem,Yl,QH,ai h0,R3.2.2.1,f1.at,f1.2.1]
    exact f2 _ _ zT
   ·rw[ah hgo,af h0,af h0]at hef2
    have hlt:=q4 h0
    simp only[go_sem,Yl,QH,ae h0]
    refine⟨(te,i+1),?_,by simp only;omega⟩
    rw[hI]
    refine⟨by simp [jI,e1],by simp [jI,e4],by simp [jI,e5],q2,⟨oV++[(tc,tv,tn,tp,(to:Int),(te:Int))],by simp [hpl],?_⟩,hef2,u4,O,st4,b4,R4,i6,hO⟩
    rw[hpre,hsk,af h0];simp
  ·simp only[go_sem,Vs,agi]
   refine cast (aeX (first:=[]) (cap:=cap)).symm ?_
   refine .inr (hYY i _ O u4 h4 _ _ hti hI4 G4 λO5 u5 h5 s5 i5 o5'=>⟨jO,?_⟩)
   obtain⟨T5,b5,R5,st5,o5⟩:=tail (λn=>if n=1 then .func (.func g) #[] cap.toArray else if n=4 then .pointer (some ⟨h.size,0,none⟩)else if n=5 then .pointer (some ⟨h.size+1,0,none⟩)else .pointer (some ⟨h3.size,0,none⟩)) O5 u5 h5 rfl rfl rfl rfl s5 i5 o5'
   cases hgo:go i with
   |true=>
    simp only[↓reduceIte,go_sem,e1,Vs]
    have T01:=T5.1
    simp only[kU]at T5
    have R0:=R5.2.1
    have b05:=b5.1;have R05:=R5.1
    simp only[jH,au,aA]at R0
    by_cases h0:tc=0
    ·rw[ah hgo,ah h0,ah h0]at hef2
     obtain⟨f0,f1,f2⟩:=fin _ _ O5 (i+1) 0 0 0 rfl st5 R5 i5 o5 hef2
     simp only[jH]at f0 f1 f2
     simp(disch:=first|omega|simp only[zz];try omega;done) only[↓reduceIte,go_sem,e4,T5.at,T5.2.1,ai h0,R0,R5.2.2.1,f1.at,f1.2.1]
     exact f2 _ _ (.refl _ _ _)
    ·rw[ah hgo,af h0,af h0]at hef2
     have hlt:=q4 h0
     simp(disch:=first|omega|simp only[zz];try omega;done) only[↓reduceIte,go_sem,e4,T5.at,T5.2.1,ae h0]
     refine⟨(te,i+1),?_,by simp only;omega⟩
     rw[hI]
     refine⟨by simp [jI,e1],by simp [jI,e4],by simp [jI,e5],q2,⟨oV++[(tc,tv,tn,tp,(to:Int),(te:Int))],by simp [hpl],?_⟩,hef2,u5,O5,st5,b5,R5,i5,o5⟩
     rw[hpre,hsk,af h0];simp
   |false=>
    rw[af (by rw[hgo];simp)]at hef2
    have R0:=R5.2.1
    have R05:=R5.1
    simp only[jH,au,aA]at R0
    obtain⟨f0,f1,f2⟩:=fin _ _ O5 (i+1) 0 0 0 rfl st5 R5 i5 o5 hef2
    simp only[jH]at f0 f1 f2
    simp(disch:=first|omega|simp only[zz];try omega;done) only[↓reduceIte,go_sem,e1,e4,Vs,R0,R5.2.2.1,f1.at,f1.2.1]
    exact f2 _ _ (.refl _ _ _)
end Go.Proofs.Z
namespace Edict
variable {c:Int} {k o p:Nat} {s:List UInt8}
def akR(n:Nat):kR:=(0,[],0,0,n,n)
def ahB(l:List kR)(n:Nat):Prop:= ∃r,l=r++[akR n]/\ ∀t∈r,t.1≠0
theorem Bg{s:List UInt8}{o i:Nat}{acc:List UInt8}{c:Int}{p:Nat}(h:og s o i acc= .bad c p):(c=11/\p=o)\/(c=15/\p=o)\/(c=12/\i<=p/\p<s.length):=by
 rw[og]at h
 split at h
 ·rename_i q
  split at h
  ·cases h
  ·split at h
   ·split at h
    ·cases h;exact .inr (.inr ⟨rfl,ak _,q.1⟩)
    ·split at h
     ·cases h;exact .inr (.inl ⟨rfl,rfl⟩)
     ·rename_i hn _
      rcases Bg h with k|k|k
      ·exact .inl k
      ·exact .inr (.inl k)
      ·exact .inr (.inr ⟨k.1,zO,k.2.2⟩)
   ·split at h
    ·cases h;exact .inr (.inl ⟨rfl,rfl⟩)
    ·rcases Bg h with k|k|k
     ·exact .inl k
     ·exact .inr (.inl k)
     ·exact .inr (.inr ⟨k.1,zO,k.2.2⟩)
 ·cases h;exact .inl ⟨rfl,rfl⟩
termination_by s.length - i
decreasing_by
 ·have:=Dm s i;omega
 ·omega
theorem agf{q:Prop} [Decidable q]{k op:Int}{n:Nat}{x:TR}(h:(if q then Pq k op o n else x)= .bad c p):x= .bad c p:=by
 split at h
 ·cases h
 ·exact h
theorem ac0(h:uz s o= .bad c p):c=10/\p=o:=by
 unfold uz at h
 iterate 11 (replace h:=agf h)
 cases h
 exact⟨rfl,rfl⟩
theorem BB{s:List UInt8}{k p:Nat}(h:oL s k=(p,false)):p<s.length:=by
 by_cases hk:k<s.length
 case neg=>rw[NC zO]at h;cases h
 by_cases hb:IB (kY s k)=true
 ·rw[UO hk hb]at h;exact BB h
 by_cases h37:kY s k=37
 ·rw[IC hk h37]at h;exact BB h
 by_cases hp:pr s k 47 42=true
 ·cases hbk:blk s 1 (k+2)with
  |none=>rw[IG hp hbk]at h;cases h;exact hk
  |some x=>rw[IE hp hbk]at h;exact BB h
 ·rw[II (by simpa using hb) h37 (by simpa using hp)]at h;cases h
termination_by s.length - k
decreasing_by
 ·omega
 ·have:=uA s (k+1);omega
 ·have:=xx s _ _ _ hbk;omega
theorem agh(h:xw s o= .bad c p):o<s.length/\c≠0/\c≠16/\c≠1/\(c≠12->p=o)/\(c=12->o<p/\p<s.length/\kY s o=34/\og s o (o+1) []= .bad 12 p):=by
 have ho:o<s.length:=gT λq=>by rw[xw,ah q]at h;cases h
 refine⟨ho,?_⟩
 rw[xw,af zO]at h
 have hi: ∀b,si s o b= .bad c p->c=13/\p=o:=λb hb=>by
  unfold si at hb
  repeat' split at hb
  all_goals first|(cases hb;done)|(cases hb;exact⟨rfl,rfl⟩)
 by_cases hd:pg (kY s o)=true
 ·rw[ah hd]at h;obtain⟨rfl,rfl⟩:=hi _ h;exact⟨zD,zD,zD,λ_=>rfl,λq=>absurd q zD⟩
 rw[af hd]at h
 by_cases hm:kY s o=45/\pg (kY s (o+1))=true
 ·rw[ah hm]at h;obtain⟨rfl,rfl⟩:=hi _ h;exact⟨zD,zD,zD,λ_=>rfl,λq=>absurd q zD⟩
 rw[af hm]at h
 by_cases hw:zw (kY s o)=true
 ·rw[ah hw]at h
  have:c=14/\p=o:=by
   unfold nP at h
   repeat' split at h
   all_goals first|(cases h;done)|(cases h;exact⟨rfl,rfl⟩)
  obtain⟨rfl,rfl⟩:=this
  exact⟨zD,zD,zD,λ_=>rfl,λq=>absurd q zD⟩
 rw[af hw]at h
 by_cases h34:kY s o=34
 ·rw[ah h34]at h
  rcases Bg h with⟨rfl,rfl⟩|⟨rfl,rfl⟩|⟨rfl,k1,k2⟩
  ·exact⟨zD,zD,zD,λ_=>rfl,λq=>absurd q zD⟩
  ·exact⟨zD,zD,zD,λ_=>rfl,λq=>absurd q zD⟩
  ·exact⟨zD,zD,zD,λq=>absurd rfl q,λ_=>⟨zO,k2,h34,h⟩⟩
 rw[af h34]at h
 have:=ac0 h
 obtain⟨rfl,rfl⟩:=this
 exact⟨zD,zD,zD,λ_=>rfl,λq=>absurd q zD⟩
theorem ac1(hk:k<=s.length)(h:oK s k= .bad c p):c≠0/\c≠1/\k<=p/\p<s.length/\(c=16->oL s k=(p,false))/\(c≠16->c≠12->oL s k=(p,true))/\(c=12-> ∃g,oL s k=(g,true)/\g<p/\kY s g=34/\og s g (g+1) []= .bad 12 p):=by
 have hge:=Iz (s:=s) (k:=k)
 have hle:=zX hk
 unfold oK at h
 cases hg:oL s k with
 |mk g b=>
  rw[hg]at h hge hle
  simp only at h hge hle
  cases b with
  |true=>
   simp only[bv]at h
   obtain⟨h1,h2,h3,h4,h5,h6⟩:=agh h
   by_cases hc:c=12
   ·obtain⟨k1,k2,k3,k4⟩:=h6 hc
    exact⟨h2,h4,zO,k2,λq=>absurd q h3,λ_ q=>absurd hc q,λ_=>⟨g,rfl,k1,k3,k4⟩⟩
   ·obtain rfl:=h5 hc
    exact⟨h2,h4,hge,h1,λq=>absurd q h3,λ_ _=>rfl,λq=>absurd q hc⟩
  |false=>
   simp only[aD,aW]at h
   cases h
   refine⟨zD,zD,hge,?_,λ_=>rfl,λq=>absurd rfl q,λq=>absurd q zD⟩
   apply dw
   intro q
   have e:p=s.length:=zO
   have:=BB hg
   omega
theorem ac3(h:mH s k=([],c,p)):oK s k= .bad c p:=by
 unfold mH wh at h
 cases hx:oK s k with
 |bad c' o'=>rw[hx]at h;cases h;rfl
 |ok t=>rw[hx]at h;simp only at h;split at h<;>cases h
theorem ZM{t:kR}{l:List kR}{f:Int×Nat}(hk:k<=s.length)(h:mH s k=(t::l,f)):oK s k= .ok t/\(t.1=0/\l=[]/\f=(0,0)\/t.1≠0/\mH s t.2.2.2.2.2.toNat=(l,f)):=by
 cases hx:oK s k with
 |bad c o=>rw[xR hx]at h;cases h
 |ok t'=>
  by_cases h0:t'.1=0
  ·rw[xS hx h0]at h;cases h;exact⟨rfl,.inl ⟨h0,rfl,rfl⟩⟩
  ·rw[zZ hk hx h0]at h;cases h;exact⟨rfl,.inr ⟨h0,rfl⟩⟩
theorem IY{s:List UInt8}: ∀{l:List kR} {k:Nat} {c:Int} {p:Nat},k<=s.length->mH s k=(l,c,p)->(c≠0/\c≠1/\p<s.length/\ ∀t∈l,t.1≠0)\/(c=0/\p=0/\ahB l s.length)
 |[],k,c,p,hk,h=>by
  obtain⟨h1,h2,h3,h4,-⟩:=ac1 hk (ac3 h)
  exact .inl ⟨h1,h2,h4,λt ht=>by cases ht⟩
 |t::l,k,c,p,hk,h=>by
  obtain⟨h1,⟨h2,rfl,h3⟩|⟨h2,h3⟩⟩:=ZM hk h
  ·cases h3
   obtain⟨c,v,n,p,o,e,rfl,q1,q2,q3,q4⟩:=wW hk h1
   obtain⟨rfl,rfl,rfl,rfl,rfl⟩:=q3 h2
   simp only at h2
   subst h2
   exact .inr ⟨rfl,rfl,[],rfl,λt ht=>by cases ht⟩
  ·obtain⟨c',v,n,p',o,e,rfl,q1,q2,q3,q4⟩:=wW hk h1
   rcases IY (k:=e) q2 h3 with⟨r1,r2,r3,r4⟩|⟨r1,r2,r,rfl,r4⟩
   ·exact .inl ⟨r1,r2,r3,λt ht=>by
     rcases aH.1 ht with rfl|ht
     ·exact h2
     ·exact r4 t ht⟩
   ·exact .inr ⟨r1,r2,_::r,rfl,λt ht=>by
     rcases aH.1 ht with rfl|ht
     ·exact h2
     ·exact r4 t ht⟩
end Edict
namespace Edict
abbrev uQ:=Int×Int×List UInt8×Int
abbrev qX:=List UInt8×List uQ×Int
abbrev uD:=Int×qX×Int×uQ×uQ×Int
abbrev qg:=qX×List uD
abbrev Flt:=Int×Int
def tK(t:kR):Int:=t.1
def tX(t:kR):List UInt8:=t.2.1
def tI(t:kR):Int:=t.2.2.1
def tP(t:kR):Int:=t.2.2.2.1
def tO(t:kR):Int:=t.2.2.2.2.1
def pK(k:Int)(vars:Bool):Bool:=decide (k=1) || decide (k=3) || decide (k=4) || (decide (k=2) && vars)
def wZ(c:Int)(t:kR):Flt:=(c,tO t)
def kH(t:kR):Flt:=(if tK t=0 then 21 else 20,tO t)
def kM(t:kR):uQ:=if tK t=3 then(1,tI t,[],tO t)else if tK t=1 then(2,0,tX t,tO t)else if tK t=4 then(3,0,tX t,tO t)else(4,0,tX t,tO t)
def kD:uQ:=(0,0,[],0)
def nM:qX:=([],[],0)
abbrev PR(α:Type):=Except Flt (α×List kR)
def rD(bad:Flt)(vars:Bool)(acc:List uQ):List kR->PR (List uQ)
 |[]=> .error bad
 |t::l=>if 8<=acc.length/\pK (tK t) vars=true then .error (wZ 22 t)else if pK (tK t) vars=false then .error (kH t)else
  match l with
  |[]=> .error bad
  |c::r=>if tK c=7 then rD bad vars (acc++[kM t]) r else if tK c=6 then .ok (acc++[kM t],r)else .error (kH c)
theorem wB{bad:Flt}{vars:Bool}{acc:List uQ}{t:kR}{l:List kR}:rD bad vars acc (t::l)=if 8<=acc.length/\pK (tK t) vars=true then .error (wZ 22 t)else if pK (tK t) vars=false then .error (kH t)else
  match l with
  |[]=> .error bad
  |c::r=>if tK c=7 then rD bad vars (acc++[kM t]) r else if tK c=6 then .ok (acc++[kM t],r)else .error (kH c):=by cases l<;>rw[rD]
def nI(bad:Flt)(vars:Bool):List kR->PR qX
 |[]=> .error bad
 |t::l=>if tK t≠1 then .error (kH t)else
  match l with
  |[]=> .error bad
  |p::r=>if tK p≠5 then .ok ((tX t,[],tO t),p::r)else
   match rD bad vars [] r with
   | .error e=> .error e
   | .ok (a,q)=> .ok ((tX t,a,tO t),q)
def zm:List kR->Bool
 |o::_=>decide (tK o=11)
 |[]=>false
def uX(bad:Flt):List kR->PR uD
 |[]=> .error bad
 |t::l=>if tK t=10 then
   (match nI bad true l with
   | .error e=> .error e
   | .ok (a,q)=> .ok ((2,a,0,kD,kD,tO t),q))
  else if tK t=1/\zm l=false then
   (match nI bad true (t::l)with
   | .error e=> .error e
   | .ok (a,q)=> .ok ((1,a,0,kD,kD,tO t),q))
  else if pK (tK t) true=false then .error (kH t)else
   match l with
   |[]=> .error bad
   |o::r=>if tK o≠11 then .error (kH o)else
    match r with
    |[]=> .error bad
    |y::q=>if pK (tK y) true=false then .error (kH y)else .ok ((3,nM,tP o,kM t,kM y,tO t),q)
theorem LV(bad:Flt)(vars:Bool): ∀(l:List kR) (acc a:List uQ) (q:List kR),rD bad vars acc l= .ok (a,q)->q.length<l.length
 |[],acc,a,q,h=>by unfold rD at h;cases h
 |[t],acc,a,q,h=>by
  unfold rD at h
  split at h
  ·cases h
  ·split at h<;>cases h
 |t::c::r,acc,a,q,h=>by
  unfold rD at h
  split at h
  ·cases h
  ·split at h
   ·cases h
   ·simp only at h
    split at h
    ·have:=LV bad vars r _ _ _ h
     simp only[au];omega
    ·split at h
     ·cases h;simp only[au];omega
     ·cases h
theorem xY{bad:Flt}{vars:Bool}{l:List kR}{a:qX}{q:List kR}(h:nI bad vars l= .ok (a,q)):q.length<l.length:=by
 unfold nI at h
 split at h
 ·cases h
 ·rename_i t l
  split at h
  ·cases h
  ·split at h
   ·cases h
   ·split at h
    ·cases h;simp
    ·split at h
     ·cases h
     ·rename_i a' q' ha
      cases h
      have:=LV _ _ _ _ _ _ ha
      simp only[au];omega
theorem Ah{bad:Flt}{l:List kR}{x:uD}{q:List kR}(h:uX bad l= .ok (x,q)):q.length<l.length:=by
 unfold uX at h
 split at h
 ·cases h
 ·rename_i t l
  split at h
  ·split at h
   ·cases h
   ·rename_i ha
    cases h
    have:=xY ha
    simp only[au];omega
  ·split at h
   ·split at h
    ·cases h
    ·rename_i ha
     cases h
     exact xY ha
   ·split at h
    ·cases h
    ·split at h
     ·cases h
     ·split at h
      ·cases h
      ·split at h
       ·cases h
       ·split at h
        ·cases h
        ·cases h;simp only[au];omega
def pV(bad:Flt)(acc:List uD)(l:List kR):PR (List uD):=
 match l with
 |[]=> .error bad
 |t::l'=>if 16<=acc.length/\(tK t=10\/pK (tK t) true=true)then .error (wZ 23 t)else
  match h:uX bad (t::l')with
  | .error e=> .error e
  | .ok (_,[])=> .error bad
  | .ok (x,c::r)=>if tK c=7 then
    have:r.length<l'.length+1:=by have:=Ah h;simp only[au]at this;omega
    pV bad (acc++[x]) r
   else if tK c=8 then .ok (acc++[x],r)else .error (kH c)
termination_by l.length
theorem xZ{bad:Flt}{acc:List uD}:pV bad acc []= .error bad:=by rw[pV]
theorem yO{bad:Flt}{acc:List uD}{t:kR}{l:List kR}(h:16<=acc.length/\(tK t=10\/pK (tK t) true=true)):pV bad acc (t::l)= .error (wZ 23 t):=by rw[pV,ah h]
theorem vE{bad:Flt}{acc:List uD}{t:kR}{l:List kR}{e:Flt}(h: ¬(16<=acc.length/\(tK t=10\/pK (tK t) true=true)))(he:uX bad (t::l)= .error e):pV bad acc (t::l)= .error e:=by
 rw[pV,af h]
 split
 ·rename_i e' h';rw[he]at h';cases h';rfl
 ·rename_i h';rw[he]at h';cases h'
 ·rename_i h';rw[he]at h';cases h'
theorem Bv{bad:Flt}{acc:List uD}{t:kR}{l:List kR}{x:uD}{q:List kR}(h: ¬(16<=acc.length/\(tK t=10\/pK (tK t) true=true)))(he:uX bad (t::l)= .ok (x,q)):
  pV bad acc (t::l)=match q with|[]=> .error bad|c::r=>if tK c=7 then pV bad (acc++[x]) r else if tK c=8 then .ok (acc++[x],r)else .error (kH c):=by
 rw[pV,af h]
 split
 ·rename_i e' h';rw[he]at h';cases h'
 ·rename_i x' h';rw[he]at h';cases h';rfl
 ·rename_i x' c' r' h';rw[he]at h';cases h';rfl
theorem LW{bad:Flt}: ∀{l:List kR} {acc a:List uD} {q:List kR},pV bad acc l= .ok (a,q)->q.length<l.length
 |[],acc,a,q,h=>by rw[xZ]at h;cases h
 |t::l,acc,a,q,h=>by
  by_cases hf:16<=acc.length/\(tK t=10\/pK (tK t) true=true)
  ·rw[yO hf]at h;cases h
  ·cases he:uX bad (t::l)with
   |error e=>rw[vE hf he]at h;cases h
   |ok xq=>
    obtain⟨x,r⟩:=xq
    rw[Bv hf he]at h
    have hl:=Ah he
    cases r with
    |nil=>cases h
    |cons c r=>
     simp only[au]at hl ⊢
     simp only at h
     split at h
     ·have:=LW (l:=r) h
      omega
     ·split at h
      ·cases h;omega
      ·cases h
termination_by l=>l.length
decreasing_by simp only[au]at*;omega
def nO(bad:Flt)(l:List kR):PR qg:=
 match nI bad true l with
 | .error e=> .error e
 | .ok (a,q)=>
  match q with
  |[]=> .error bad
  |c::r=>if tK c=8 then .ok ((a,[]),r)else if tK c=9 then
    (match pV bad [] r with
    | .error e=> .error e
    | .ok (b,p)=> .ok ((a,b),p))
   else .error (kH c)
theorem Ai{bad:Flt}{l:List kR}{x:qg}{q:List kR}(h:nO bad l= .ok (x,q)):q.length<l.length:=by
 unfold nO at h
 split at h
 ·cases h
 ·rename_i a q' ha
  have h1:=xY ha
  split at h
  ·cases h
  ·rename_i c r
   simp only[au]at h1
   split at h
   ·cases h;omega
   ·split at h
    ·split at h
     ·cases h
     ·rename_i hb
      cases h
      have:=LW hb
      omega
    ·cases h
def rq(bad:Flt)(l:List kR):PR qX:=
 match nI bad false l with
 | .error e=> .error e
 | .ok (a,q)=>
  match q with
  |[]=> .error bad
  |c::r=>if tK c=8 then .ok (a,r)else .error (kH c)
theorem IX{bad:Flt}{l:List kR}{x:qX}{q:List kR}(h:rq bad l= .ok (x,q)):q.length<l.length:=by
 unfold rq at h
 split at h
 ·cases h
 ·rename_i a q' ha
  have h1:=xY ha
  split at h
  ·cases h
  ·rename_i c r
   simp only[au]at h1
   split at h
   ·cases h;omega
   ·cases h
def Aj{α:Type}(bad:Flt)(m:Nat)(one:List kR->PR α)(hone: ∀l x q,one l= .ok (x,q)->q.length<l.length)(acc:List α)(l:List kR):Except Flt (List α):=
 match l with
 |[]=> .error bad
 |t::l'=>if tK t=0 then .ok acc else if m<=acc.length/\tK t=1 then .error (wZ 24 t)else
  match h:one (t::l')with
  | .error e=> .error e
  | .ok (x,q)=>have:=hone _ _ _ h;Aj bad m one hone (acc++[x]) q
termination_by l.length
def nQ(bad:Flt)(acc:List qg)(l:List kR):Except Flt (List qg):=Aj bad 512 (nO bad) (λ_ _ _ h=>Ai h) acc l
def mh(bad:Flt)(acc:List qX)(l:List kR):Except Flt (List qX):=Aj bad 4096 (rq bad) (λ_ _ _ h=>IX h) acc l
section
variable {α:Type} {bad:Flt} {m:Nat} {one:List kR->PR α} {hone: ∀l x q,one l= .ok (x,q)->q.length<l.length} {acc:List α} {t:kR} {l:List kR}
theorem Dy:Aj bad m one hone acc []= .error bad:=by rw[Aj]
theorem Dz(h:tK t=0):Aj bad m one hone acc (t::l)= .ok acc:=by rw[Aj,ah h]
theorem Bz(h0:tK t≠0)(h:m<=acc.length/\tK t=1):Aj bad m one hone acc (t::l)= .error (wZ 24 t):=by rw[Aj,af h0,ah h]
theorem DD{e:Flt}(h0:tK t≠0)(h: ¬(m<=acc.length/\tK t=1))(he:one (t::l)= .error e):Aj bad m one hone acc (t::l)= .error e:=by
 rw[Aj,af h0,af h]
 split
 ·rename_i e' h';rw[he]at h';cases h';rfl
 ·rename_i h';rw[he]at h';cases h'
theorem GR{x:α}{q:List kR}(h0:tK t≠0)(h: ¬(m<=acc.length/\tK t=1))(he:one (t::l)= .ok (x,q)):Aj bad m one hone acc (t::l)=Aj bad m one hone (acc++[x]) q:=by
 rw[Aj,af h0,af h]
 split
 ·rename_i e' h';rw[he]at h';cases h'
 ·rename_i h';rw[he]at h';cases h';rfl
end
end Edict
namespace Edict
def xy(first:Int):Int:=if first=5 then 25 else 0
def jT(first s k:Int):Int:=
 if s=0 then(if k=1 then 1 else if k=0 then 26 else -1)
 else if s=1 then(if k=5 then 2 else if k=8 then 0 else if k=9 then 5 else -1)
 else if s=2 then(if pK k true=true then 3 else -1)
 else if s=3 then(if k=7 then 2 else if k=6 then 4 else -1)
 else if s=4 then(if k=8 then 0 else if k=9 then 5 else -1)
 else if s=5 then(if k=1 then 6 else if k=10 then 7 else if pK k true=true then 8 else -1)
 else if s=6 then(if k=11 then 11 else if k=5 then 9 else if k=7 then 5 else if k=8 then xy first else -1)
 else if s=7 then(if k=1 then 12 else -1)
 else if s=8 then(if k=11 then 11 else -1)
 else if s=9 then(if pK k true=true then 10 else -1)
 else if s=10 then(if k=7 then 9 else if k=6 then 13 else -1)
 else if s=11 then(if pK k true=true then 14 else -1)
 else if s=12 then(if k=5 then 9 else if k=7 then 5 else if k=8 then xy first else -1)
 else if s=13 then(if k=7 then 5 else if k=8 then xy first else -1)
 else if s=14 then(if k=7 then 5 else if k=8 then xy first else -1)
 else if s=15 then(if k=1 then 16 else if k=0 then 26 else -1)
 else if s=16 then(if k=5 then 17 else if k=8 then 15 else -1)
 else if s=17 then(if pK k false=true then 18 else -1)
 else if s=18 then(if k=7 then 17 else if k=6 then 19 else -1)
 else if s=19 then(if k=8 then 15 else -1)
 else if s=20 then(if k=1 then 21 else -1)
 else if s=21 then(if k=5 then 22 else if k=0 then 26 else -1)
 else if s=22 then(if pK k false=true then 23 else -1)
 else if s=23 then(if k=7 then 22 else if k=6 then 24 else -1)
 else if s=24 then(if k=0 then 26 else -1)
 else if s=25 then(if k=0 then 26 else -1)
 else -1
def zy(s k:Int)(c:Nat):Nat:=if(s=0\/s=15)/\k=1 then c+1 else c
def zA(s k:Int)(l:Nat):Nat:=if k=9 then 0 else if s=5 then l+1 else l
def zB(s k:Int)(t:Nat):Nat:=if k=5 then 0 else if s=2\/s=9\/s=17\/s=22 then t+1 else t
def yN(first:Int)(c:Nat):Bool:=(decide (first=0) && decide (512<c)) || (decide (first=15) && decide (4096<c))
def ww(first:Int)(c l t:Nat):Int:=if yN first c=true then 24 else if 16<l then 23 else if 8<t then 22 else 0
def mo(first:Int)(bad:Flt):Int->Nat->Nat->Nat->List kR->Flt
 |_,_,_,_,[]=>bad
 |s,c,l,t,x::r=>if jT first s (tK x)= -1 then kH x else
   if ww first (zy s (tK x) c) (zA s (tK x) l) (zB s (tK x) t)≠0 then(ww first (zy s (tK x) c) (zA s (tK x) l) (zB s (tK x) t),tO x)else
   mo first bad (jT first s (tK x)) (zy s (tK x) c) (zA s (tK x) l) (zB s (tK x) t) r
def rM(d k:Int):Int:=if k=5 then d+1 else if k=6 then d - 1 else d
def ny(k:Int):Int->List kR->List kR->List (List kR)
 |_,now,[]=>[now]
 |d,now,t::l=>if tK t=k/\rM d (tK t)=0 then now::ny k (rM d (tK t)) [] l else ny k (rM d (tK t)) (now++[t]) l
def lX(l:List kR):List uQ:=(l.filter λt=>pK (tK t) true).map kM
def nz:List kR->qX
 |[]=>nM
 |t::l=>(tX t,lX l,tO t)
def xX:List kR->uD
 |[]=>(0,nM,0,kD,kD,0)
 |t::l=>if tK t=10 then(2,nz l,0,kD,kD,tO t)else
  match l with
  |[o,y]=>if tK o=11 then(3,nM,tP o,kM t,kM y,tO t)else(1,nz (t::l),0,kD,kD,tO t)
  |_=>(1,nz (t::l),0,kD,kD,tO t)
def uf(l:List kR):List uD:=(ny 7 0 [] l).map xX
def oM(s:List kR):qg:=
 match ny 9 0 [] s with
 |[a,b]=>(nz a,uf b)
 |a::_=>(nz a,[])
 |[]=>(nM,[])
def rC(l:List kR):List (List kR):=(ny 8 0 [] l).dropLast
theorem NM(k:Int): ∀(l:List kR) (d:Int) (now:List kR),ny k d now l≠[]
 |[],d,now=>by simp [ny]
 |t::l,d,now=>by
  rw[ny]
  split
  ·simp
  ·exact NM k l _ _
/-! ### Agreement -/
def oO(l:List kR)(bad:Flt):Prop:=(bad.1≠0/\ ∀t∈l,tK t≠0)\/(bad=(0,0)/\ ∃q e,l=q++[e]/\tK e=0/\ ∀t∈q,tK t≠0)
theorem oO.nil{bad:Flt}(h:oO [] bad):bad.1≠0:=by
 rcases h with h|⟨_,q,e,h,_⟩
 ·exact h.1
 ·cases q<;>cases h
theorem oO.tail{t:kR}{l:List kR}{bad:Flt}(h:oO (t::l) bad)(ht:tK t≠0):oO l bad:=by
 rcases h with h|⟨h0,q,e,h1,h2,h3⟩
 ·exact .inl ⟨h.1,λx hx=>h.2 x (bg _ hx)⟩
 ·cases q with
  |nil=>cases h1;exact absurd h2 ht
  |cons a q=>cases h1;exact .inr ⟨h0,q,e,rfl,h2,λx hx=>h3 x (bg _ hx)⟩
theorem oO.last{t:kR}{l:List kR}{bad:Flt}(h:oO (t::l) bad)(ht:tK t=0):l=[]/\bad=(0,0):=by
 rcases h with h|⟨h0,q,e,h1,h2,h3⟩
 ·exact absurd ht (h.2 t zP)
 ·cases q with
  |nil=>cases h1;exact⟨rfl,h0⟩
  |cons a q=>cases h1;exact absurd ht (h3 t zP)
theorem oH(t:kR):(kH t).1≠0:=by unfold kH;split<;>simp
section
variable {f:Int} {bad:Flt} {s:Int} {c l t:Nat} {x:kR} {r:List kR}
theorem pF(h:jT f s (tK x)= -1):mo f bad s c l t (x::r)=kH x:=by rw[mo,ah h]
theorem Du{e:Int}(h:jT f s (tK x)≠ -1)(ho:ww f (zy s (tK x) c) (zA s (tK x) l) (zB s (tK x) t)=e)(he:e≠0):mo f bad s c l t (x::r)=(e,tO x):=by
 rw[mo,af h,ho,ah he]
theorem qf{n:Int}{c' l' t':Nat}(h:jT f s (tK x)=n)(hn:n≠ -1)(hc:zy s (tK x) c=c')(hl:zA s (tK x) l=l')(ht:zB s (tK x) t=t')(ho:ww f c' l' t'=0):
  mo f bad s c l t (x::r)=mo f bad n c' l' t' r:=by
 rw[mo,h,hc,hl,ht,af hn,af (by simp [ho])]
end
theorem rH{f:Int}{c l t:Nat}(h1:yN f c=false)(h2:l<=16)(h3:t<=8):ww f c l t=0:=by
 unfold ww;rw[af (by simp [h1]),af zO,af zO]
def uW(k:Int)(l:List kR):Prop:= ∀now rest,ny k 0 now (l++rest)=ny k 0 (now++l) rest
theorem uW.app{k:Int}{a b:List kR}(ha:uW k a)(hb:uW k b):uW k (a++b):=λnow rest=>by rw[bE,ha,hb,bE]
theorem uW.one{k:Int}{t:kR}(h1:tK t≠k)(h5:tK t≠5)(h6:tK t≠6):uW k [t]:=λnow rest=>by
 show ny k 0 now (t::rest)=_
 rw[ny,af (λq=>h1 q.1)]
 unfold rM
 rw[af h5,af h6]
theorem uW.all{k:Int}{a:List kR}(ha:uW k a):ny k 0 [] a=[a]:=by
 have:=ha [] []
 rw[bG]at this
 rw[this];rfl
structure QB (f S M E:Int) (vars:Bool):Prop where
 mS: ∀k,jT f S k=if pK k vars=true then M else -1
 mM: ∀k,jT f M k=if k=7 then S else if k=6 then E else -1
 sS:S=2\/S=9\/S=17\/S=22
 sM:M=3\/M=10\/M=18\/M=23
 sE:E≠ -1
theorem Vp{f:Int}:QB f 2 3 4 true:=⟨λk=>by simp [jT],λk=>by simp [jT],zP,zP,zD⟩
theorem LP{f:Int}:QB f 9 10 13 true:=⟨λk=>by simp [jT],λk=>by simp [jT],zP,zP,zD⟩
theorem Vq{f:Int}:QB f 17 18 19 false:=⟨λk=>by simp [jT],λk=>by simp [jT],zP,zP,zD⟩
theorem Dv{k:Int}{v:Bool}(h:pK k v=true):pK k true=true:=by
 cases v
 ·unfold pK at h ⊢;simp at h ⊢;omega
 ·exact h
theorem Yk{k:Int}{v:Bool}(h:pK k v=true):k=1\/k=2\/k=3\/k=4:=by
 have:=Dv h
 unfold pK at this;simp at this;omega
theorem QC{f S M E:Int}{vars:Bool}(A:QB f S M E vars){bad:Flt}{c li:Nat}(hc:yN f c=false)(hli:li<=16): ∀(l:List kR) (acc:List uQ),acc.length<=8->oO l bad->
  (∀e,rD bad vars acc l= .error e->mo f bad S c li acc.length l=e/\e.1≠0)/\
  ∀a q,rD bad vars acc l= .ok (a,q)->oO q bad/\(∃te,te<=8/\mo f bad S c li acc.length l=mo f bad E c li te q)/\
   ∃oV,l=oV++q/\a=acc++lX oV/\ ∀k,k=7\/k=8\/k=9-> ∀now rest,ny k 1 now (oV++rest)=ny k 0 (now++oV) rest
 |[],acc,_,hg=>by
  unfold rD
  exact⟨λe h=>by cases h;exact⟨rfl,hg.nil⟩,λa q h=>by cases h⟩
 |t::l,acc,hacc,hg=>by
  have hsC: ∀k,zy S k c=c:=λk=>by unfold zy;rw[af];rintro ⟨h|h,_⟩<;>(rcases A.sS with q|q|q|q<;>omega)
  have hsL: ∀k,k≠9->zA S k li=li:=λk hk=>by unfold zA;rw[af hk,af];rcases A.sS with q|q|q|q<;>omega
  have hsT: ∀k n,k≠5->zB S k n=n+1:=λk n hk=>by unfold zB;rw[af hk,ah A.sS]
  have hmC: ∀k,zy M k c=c:=λk=>by unfold zy;rw[af];rintro ⟨h|h,_⟩<;>(rcases A.sM with q|q|q|q<;>omega)
  have hmL: ∀k,k≠9->zA M k li=li:=λk hk=>by unfold zA;rw[af hk,af];rcases A.sM with q|q|q|q<;>omega
  have hmT: ∀k n,k≠5->zB M k n=n:=λk n hk=>by unfold zB;rw[af hk,af];rcases A.sM with q|q|q|q<;>omega
  have hM1:M≠ -1:=by rcases A.sM with q|q|q|q<;>omega
  have hS1:S≠ -1:=by rcases A.sS with q|q|q|q<;>omega
  rw[wB]
  by_cases hT:pK (tK t) vars=true
  ·have hk:=Yk hT
   have mv:jT f S (tK t)=M:=by rw[A.mS,ah hT]
   by_cases hfull:8<=acc.length
   ·rw[ah ⟨hfull,hT⟩]
    refine⟨λe h=> ?_,λa q h=>by cases h⟩
    cases h
    refine⟨Du (by rw[mv];exact hM1) ?_ zD,(show(22:Int)≠0 by decide)⟩
    rw[hsC,hsL _ zO,hsT _ _ zO]
    unfold ww;rw[af (by simp [hc]),af zO,ah zO]
   ·rw[af (λq=>hfull q.1),af (by simp [hT])]
    have hon:mo f bad S c li acc.length (t::l)=mo f bad M c li (acc.length+1) l:=qf mv hM1 (hsC _) (hsL _ zO) (hsT _ _ zO) (rH hc hli zO)
    have hgl:oO l bad:=hg.tail zO
    rw[hon]
    cases l with
    |nil=>exact⟨λe h=>by cases h;exact⟨rfl,hgl.nil⟩,λa q h=>by cases h⟩
    |cons p r=>
     simp only
     have hlen:(acc++[kM t]).length=acc.length+1:=zP
     have hdt: ∀d,rM d (tK t)=d:=λd=>by unfold rM;rw[af zO,af zO]
     have hat:lX [t]=[kM t]:=by unfold lX;simp [Dv hT]
     by_cases h7:tK p=7
     ·rw[ah h7]
      have hon2:mo f bad M c li (acc.length+1) (p::r)=mo f bad S c li (acc.length+1) r:=qf (by rw[A.mM,ah h7]) hS1 (hmC _) (hmL _ zO) (hmT _ _ zO) (rH hc hli zO)
      obtain⟨i1,i2⟩:=QC A hc hli r (acc++[kM t]) zO (hgl.tail zO)
      rw[hon2,<-hlen]
      refine⟨i1,λa q h=> ?_⟩
      obtain⟨j1,j2,oV,j3,j4,j5⟩:=i2 a q h
      refine⟨j1,j2,t::p::oV,by rw[j3];rfl,?_,λk hk' now rest=> ?_⟩
      ·rw[j4]
       have:lX (t::p::oV)=kM t::lX oV:=by
        unfold lX;simp [Dv hT,show pK (tK p) true=false by rw[h7];rfl]
       rw[this];simp
      ·show ny k 1 now (t::p::(oV++rest))=_
       rw[ny,hdt,af (λq=>absurd q.2 zD),ny,af (λq=>by have:=q.2;unfold rM at this;rw[af zO,af zO]at this;exact absurd this zD)]
       unfold rM
       rw[af zO,af zO,j5 k hk']
       simp
     ·rw[af h7]
      by_cases h6:tK p=6
      ·rw[ah h6]
       refine⟨λe h=>(by cases h),λa q h=> ?_⟩
       cases h
       refine⟨hgl.tail zO,⟨acc.length+1,zO,qf (by rw[A.mM,af h7,ah h6]) A.sE (hmC _) (hmL _ zO) (hmT _ _ zO) (rH hc hli zO)⟩,[t,p],rfl,?_,λk hk' now rest=> ?_⟩
       ·have:lX [t,p]=[kM t]:=by
         unfold lX;simp [Dv hT,show pK (tK p) true=false by rw[h6];rfl]
        rw[this]
       ·show ny k 1 now (t::p::rest)=_
        rw[ny,hdt,af (λq=>absurd q.2 zD),ny,af (λq=>zO)]
        unfold rM
        rw[af zO,ah h6]
        simp
      ·rw[af h6]
       refine⟨λe h=> ?_,λa q h=>by cases h⟩
       cases h
       exact⟨pF (by rw[A.mM,af h7,af h6]),oH _⟩
  ·rw[af (λq=>hT q.2),ah (by simpa using hT)]
   refine⟨λe h=> ?_,λa q h=>by cases h⟩
   cases h
   exact⟨pF (by rw[A.mS,af hT]),oH _⟩
theorem QD{bad:Flt}{vars:Bool}{t p:kR}{r:List kR}(ht:tK t=1):nI bad vars (t::p::r)=if tK p≠5 then .ok ((tX t,[],tO t),p::r)else
   match rD bad vars [] r with
   | .error e=> .error e
   | .ok (a,q)=> .ok ((tX t,a,tO t),q):=by rw[nI,af (by simp [ht])]<;>rfl
theorem LQ{bad:Flt}{vars:Bool}{t:kR}(ht:tK t=1):nI bad vars [t]= .error bad:=by rw[nI,af (by simp [ht])]
theorem uC{bad:Flt}{vars:Bool}{t:kR}{l:List kR}(ht:tK t≠1):nI bad vars (t::l)= .error (kH t):=by cases l<;>rw[nI,ah ht]
theorem ZK{t:kR}{l:List kR}(h:pK (tK t) true=false):lX (t::l)=lX l:=by unfold lX;simp [h]
theorem Dw {f N S M E:Int} {vars:Bool} (A:QB f S M E vars) (hN:jT f N 5=S) (hN0:N=1\/N=6\/N=12\/N=16\/N=21) {bad:Flt} {c li te:Nat} (hc:yN f c=false) (hli:li<=16) (hte:te<=8)
  {t:kR} {l:List kR} (ht:tK t=1) (hg:oO l bad):
  (∀e,nI bad vars (t::l)= .error e->mo f bad N c li te l=e/\e.1≠0)/\
  ∀a q,nI bad vars (t::l)= .ok (a,q)->oO q bad/\(∃te' X,te'<=8/\mo f bad N c li te l=mo f bad X c li te' q/\(X=E\/(X=N/\q=l/\ ∀p r,q=p::r->tK p≠5)))/\
   ∃oV,l=oV++q/\a=nz (t::oV)/\(∀k,k=7\/k=8\/k=9->uW k (t::oV))/\(∀p r,oV=p::r->tK p=5):=by
 cases l with
 |nil=>
  rw[LQ ht]
  exact⟨λe h=>by cases h;exact⟨rfl,hg.nil⟩,λa q h=>by cases h⟩
 |cons p r=>
  rw[QD ht]
  by_cases h5:tK p=5
  ·rw[af (by simp [h5])]
   have hS1:S≠ -1:=by rcases A.sS with q|q|q|q<;>omega
   have hon:mo f bad N c li te (p::r)=mo f bad S c li ([]:List uQ).length r:=qf (by rw[h5,hN]) hS1 (by unfold zy;rw[af (by rcases hN0 with q|q|q|q|q<;>omega)]) (by unfold zA;rw[af zO,af (by rcases hN0 with q|q|q|q|q<;>omega)]) (by unfold zB;rw[ah h5];rfl) (rH hc hli zP)
   obtain⟨i1,i2⟩:=QC A hc hli r [] zP (hg.tail zO)
   rw[hon]
   cases ha:rD bad vars [] r with
   |error e=>exact⟨λe' h=>by cases h;exact i1 e ha,λa q h=>by cases h⟩
   |ok aq=>
    obtain⟨a,q⟩:=aq
    refine⟨λe' h=>(by cases h),λa' q' h=> ?_⟩
    cases h
    obtain⟨j1,⟨te',j2,j2'⟩,oV,j3,j4,j5⟩:=i2 a q ha
    have h5t:pK (tK p) true=false:=by rw[h5];rfl
    refine⟨j1,⟨te',E,j2,j2',.inl rfl⟩,p::oV,by rw[j3];rfl,?_,λk hk now rest=> ?_,λp' r' h=>by cases h;exact h5⟩
    ·rw[j4]
     show(tX t,[]++lX oV,tO t)=(tX t,lX (p::oV),tO t)
     rw[ZK h5t,aJ]
    ·show ny k 0 now (t::p::(oV++rest))=_
     rw[ny,af (λq=>zO)]
     have hd:rM 0 (tK t)=0:=by unfold rM;rw[af zO,af zO]
     have hd2:rM 0 (tK p)=1:=by unfold rM;rw[ah h5];rfl
     rw[hd,ny,af (λq=>zO),hd2,j5 k hk]
     simp
  ·rw[ah h5]
   refine⟨λe h=>(by cases h),λa q h=> ?_⟩
   cases h
   refine⟨hg,⟨te,N,hte,rfl,.inr ⟨rfl,rfl,λp' r' h=>by cases h;exact h5⟩⟩,[],rfl,?_,λk hk=>uW.one zO zO zO,λp' r' h=>by cases h⟩
   rfl
def ajb(f X:Int)(q:List kR):Prop:=(X=6\/X=12\/X=13\/X=14)/\ ∀p r,q=p::r->jT f X (tK p)=if tK p=7 then 5 else if tK p=8 then xy f else -1
theorem acY{t:kR}{oV:List kR}(ht:tK t=1)(h: ∀p r,oV=p::r->tK p=5):xX (t::oV)=(1,nz (t::oV),0,kD,kD,tO t):=by
 unfold xX
 simp only
 rw[af zO]
 split
 ·rename_i o y
  rw[af (by have:=h _ _ rfl;omega)]
 ·rfl
def QE(p:List kR):Prop:= ∃t l,p=t::l/\(tK t=10->l≠[])
def Dx(s:List kR):Prop:= ∃a rest,ny 9 0 [] s=a::rest/\a≠[]/\(rest=[]\/ ∃b,rest=[b]/\ ∀p∈ny 7 0 [] b,QE p)
theorem age{f:Int}{bad:Flt}{c li te:Nat}(hc:yN f c=false)(hli:li+1<=16)(hte:te<=8){t:kR}{l:List kR}(hg:oO (t::l) bad):
  (∀e,uX bad (t::l)= .error e->mo f bad 5 c li te (t::l)=e/\e.1≠0)/\
  ∀x q,uX bad (t::l)= .ok (x,q)->oO q bad/\(∃te' X,te'<=8/\mo f bad 5 c li te (t::l)=mo f bad X c (li+1) te' q/\ajb f X q)/\
   ∃oV,t::l=oV++q/\x=xX oV/\QE oV/\ ∀k,k=7\/k=8\/k=9->uW k oV:=by
 have m5: ∀k,jT f 5 k=if k=1 then 6 else if k=10 then 7 else if pK k true=true then 8 else -1:=λk=>by simp [jT]
 have c5: ∀k,zy 5 k c=c:=λk=>by unfold zy;rw[af zO]
 have l5: ∀k,k≠9->zA 5 k li=li+1:=λk hk=>by unfold zA;rw[af hk,ah rfl]
 have t5: ∀k,k≠5->zB 5 k te=te:=λk hk=>by unfold zB;rw[af hk,af zO]
 have ho:=rH hc hli hte
 rw[uX.eq_def]
 simp only
 by_cases h10:tK t=10
 ·rw[ah h10]
  have hon:mo f bad 5 c li te (t::l)=mo f bad 7 c (li+1) te l:=qf (by rw[m5,af zO,ah h10]) zD (c5 _) (l5 _ zO) (t5 _ zO) ho
  have hgl:=hg.tail zO
  rw[hon]
  cases l with
  |nil=>exact⟨λe h=>by rw[nI]at h;cases h;exact⟨rfl,hgl.nil⟩,λa q h=>by rw[nI]at h;cases h⟩
  |cons n r=>
   by_cases h1:tK n=1
   ·have hon2:mo f bad 7 c (li+1) te (n::r)=mo f bad 12 c (li+1) te r:=qf (by rw[h1];simp [jT]) zD (by unfold zy;rw[af zO]) (by unfold zA;rw[af zO,af zO]) (by unfold zB;rw[af zO,af zO]) ho
    obtain⟨i1,i2⟩:=Dw (f:=f) (N:=12) LP (by simp [jT]) zP hc hli hte h1 (hgl.tail zO)
    rw[hon2]
    cases ha:nI bad true (n::r)with
    |error e=>exact⟨λe' h=>by cases h;exact i1 e ha,λa q h=>by cases h⟩
    |ok aq=>
     obtain⟨a,q⟩:=aq
     refine⟨λe' h=>(by cases h),λa' q' h=> ?_⟩
     cases h
     obtain⟨j1,⟨te',X,j2,j3,j4⟩,oV,j5,j6,j7,j8⟩:=i2 a q ha
     refine⟨j1,⟨te',X,j2,j3,?_⟩,t::n::oV,by rw[j5];rfl,?_,⟨t,n::oV,rfl,λ_=>zP⟩,λk hk=>uW.app (a:=[t]) (uW.one zO zO zO) (j7 k hk)⟩
     ·rcases j4 with rfl|⟨rfl,j4,j4'⟩
      ·exact⟨zP,λp r' _=>by simp [jT]⟩
      ·exact⟨zP,λp r' h=>by have:=j4' p r' h;simp [jT,this]⟩
     ·rw[j6];unfold xX;simp only[ah h10]
   ·rw[uC h1]
    refine⟨λe h=> ?_,λa q h=>by cases h⟩
    cases h
    exact⟨pF (by simp [jT,h1]),oH _⟩
 rw[af h10]
 by_cases h1:tK t=1/\zm l=false
 ·rw[ah h1]
  have hon:mo f bad 5 c li te (t::l)=mo f bad 6 c (li+1) te l:=qf (by rw[m5,ah h1.1]) zD (c5 _) (l5 _ zO) (t5 _ zO) ho
  obtain⟨i1,i2⟩:=Dw (f:=f) (N:=6) LP (by simp [jT]) zP hc hli hte h1.1 (hg.tail zO)
  rw[hon]
  cases ha:nI bad true (t::l)with
  |error e=>exact⟨λe' h=>by cases h;exact i1 e ha,λa q h=>by cases h⟩
  |ok aq=>
   obtain⟨a,q⟩:=aq
   refine⟨λe' h=>(by cases h),λa' q' h=> ?_⟩
   cases h
   obtain⟨j1,⟨te',X,j2,j3,j4⟩,oV,j5,j6,j7,j8⟩:=i2 a q ha
   refine⟨j1,⟨te',X,j2,j3,?_⟩,t::oV,by rw[j5];rfl,by rw[acY h1.1 j8,j6],⟨t,oV,rfl,λq=>absurd q h10⟩,j7⟩
   rcases j4 with rfl|⟨rfl,j4,j4'⟩
   ·exact⟨zP,λp r' _=>by simp [jT]⟩
   ·refine⟨zP,λp r' h=> ?_⟩
    have h5:=j4' p r' h
    have h11:tK p≠11:=by
     have:=h1.2
     rw[<-j4,h]at this
     simpa [zm]using this
    simp [jT,h5,h11]
 rw[af h1]
 by_cases hT:pK (tK t) true=true
 ·rw[af (by simp [hT])]
  have hk:=Yk hT
  obtain⟨X1,hX1,hX6,hm1⟩: ∃X1,(X1=6\/X1=8)/\(X1=6->zm l=true)/\jT f 5 (tK t)=X1:=by
   by_cases q:tK t=1
   ·refine⟨6,.inl rfl,λ_=> ?_,by rw[m5,ah q]⟩
    cases h:zm l
    ·exact absurd ⟨q,h⟩ h1
    ·rfl
   ·exact⟨8,.inr rfl,λh=>absurd h zD,by rw[m5,af q,af h10,ah hT]⟩
  have hon:mo f bad 5 c li te (t::l)=mo f bad X1 c (li+1) te l:=qf hm1 zO (c5 _) (l5 _ zO) (t5 _ zO) ho
  have hgl:=hg.tail zO
  rw[hon]
  cases l with
  |nil=>exact⟨λe h=>by cases h;exact⟨rfl,hgl.nil⟩,λa q h=>by cases h⟩
  |cons o r=>
   simp only
   by_cases h11:tK o=11
   ·rw[af (by simp [h11])]
    have hon2:mo f bad X1 c (li+1) te (o::r)=mo f bad 11 c (li+1) te r:=qf (by rw[h11];rcases hX1 with rfl|rfl<;>simp [jT]) zD (by unfold zy;rw[af zO]) (by unfold zA;rw[af zO,af zO]) (by unfold zB;rw[af zO,af zO]) ho
    have hgr:=hgl.tail zO
    rw[hon2]
    cases r with
    |nil=>exact⟨λe h=>by cases h;exact⟨rfl,hgr.nil⟩,λa q h=>by cases h⟩
    |cons y q=>
     simp only
     by_cases hy:pK (tK y) true=true
     ·rw[af (by simp [hy])]
      refine⟨λe h=>(by cases h),λa q' h=> ?_⟩
      cases h
      have hky:=Yk hy
      refine⟨hgr.tail zO,⟨te,14,hte,qf (by simp [jT,hy]) zD (by unfold zy;rw[af zO]) (by unfold zA;rw[af zO,af zO]) (by unfold zB;rw[af zO,af zO]) ho,zP,λp r' _=>by simp [jT]⟩,[t,o,y],rfl,?_,⟨t,[o,y],rfl,λ_=>zP⟩,λk hk'=> ?_⟩
      ·unfold xX;simp only;rw[af h10,ah h11]
      ·exact(uW.one (t:=t) zO zO zO).app ((uW.one (t:=o) zO zO zO).app (uW.one (t:=y) zO zO zO))
     ·rw[ah (by simpa using hy)]
      refine⟨λe h=> ?_,λa q h=>by cases h⟩
      cases h
      exact⟨pF (by simp [jT,hy]),oH _⟩
   ·rw[ah h11]
    refine⟨λe h=> ?_,λa q h=>by cases h⟩
    cases h
    rcases hX1 with rfl|rfl
    ·have:=hX6 rfl
     simp [zm,h11]at this
    ·exact⟨pF (by simp [jT,h11]),oH _⟩
 ·rw[ah (by simpa using hT)]
  refine⟨λe h=> ?_,λa q h=>by cases h⟩
  cases h
  refine⟨pF ?_,oH _⟩
  rw[m5,af,af h10,af hT]
  intro q;rw[q]at hT;exact hT rfl
theorem QF{f:Int}{bad:Flt}{c:Nat}(hc:yN f c=false): ∀(l:List kR) (acc:List uD) (te:Nat),acc.length<=16->te<=8->oO l bad->
  (∀e,pV bad acc l= .error e->mo f bad 5 c acc.length te l=e/\e.1≠0)/\
  ∀a q,pV bad acc l= .ok (a,q)->oO q bad/\(∃li' te',li'<=16/\te'<=8/\mo f bad 5 c acc.length te l=mo f bad (xy f) c li' te' q)/\
   ∃oV d,l=oV++d::q/\tK d=8/\a=acc++uf oV/\uW 8 oV/\uW 9 oV/\ ∀p∈ny 7 0 [] oV,QE p
 |[],acc,te,_,_,hg=>by
  rw[xZ]
  exact⟨λe h=>by cases h;exact⟨rfl,hg.nil⟩,λa q h=>by cases h⟩
 |t::l,acc,te,hacc,hte,hg=>by
  by_cases hf:16<=acc.length/\(tK t=10\/pK (tK t) true=true)
  ·rw[yO hf]
   refine⟨λe h=> ?_,λa q h=>by cases h⟩
   cases h
   have hk:tK t=10\/tK t=1\/tK t=2\/tK t=3\/tK t=4:=hf.2.imp id Yk
   refine⟨Du (e:=23) ?_ ?_ zD,(show(23:Int)≠0 by decide)⟩
   ·rw[show jT f 5 (tK t)=if tK t=1 then 6 else if tK t=10 then 7 else if pK (tK t) true=true then 8 else -1 by simp [jT]]
    rcases hf.2 with q|q
    ·rw[af zO,ah q];decide
    ·rw[ah q];split
     ·decide
     ·split<;>decide
   ·have h1:zy 5 (tK t) c=c:=by unfold zy;rw[af zO]
    have h2:zA 5 (tK t) acc.length=acc.length+1:=by unfold zA;rw[af zO,ah rfl]
    rw[h1,h2];unfold ww;rw[af (by simp [hc]),ah zO]
  by_cases h16:16<=acc.length
  ·have hn:tK t≠10/\pK (tK t) true=false:=⟨λq=>hf ⟨h16,.inl q⟩,by cases h:pK (tK t) true;rfl;exact absurd ⟨h16,.inr h⟩ hf⟩
   have h1:tK t≠1:=λq=>by have:=hn.2;rw[q]at this;cases this
   have he:uX bad (t::l)= .error (kH t):=by rw[uX.eq_def];simp only;rw[af hn.1,af (λq=>h1 q.1),ah hn.2]
   rw[vE hf he]
   refine⟨λe h=> ?_,λa q h=>by cases h⟩
   cases h
   exact⟨pF (by simp [jT,hn.1,hn.2,h1]),oH _⟩
  obtain⟨i1,i2⟩:=age (f:=f) (te:=te) hc (show acc.length+1<=16 by omega) hte hg
  cases he:uX bad (t::l)with
  |error e=>
   rw[vE hf he]
   exact⟨λe' h=>by cases h;exact i1 e he,λa q h=>by cases h⟩
  |ok xq=>
   obtain⟨x,q⟩:=xq
   rw[Bv hf he]
   obtain⟨j1,⟨te',X,j2,j3,jX,j4⟩,oV,j5,j6,jw,j7⟩:=i2 x q he
   rw[j3]
   have hqlen:=Ah he
   cases q with
   |nil=>exact⟨λe h=>by cases h;exact⟨rfl,j1.nil⟩,λa q h=>by cases h⟩
   |cons p r=>
    simp only
    have hmv:=j4 p r rfl
    have hsC:zy X (tK p) c=c:=by unfold zy;rw[af zO]
    have hsL:tK p≠9->zA X (tK p) (acc.length+1)=acc.length+1:=λh=>by unfold zA;rw[af h,af zO]
    have hsT:tK p≠5->zB X (tK p) te'=te':=λh=>by unfold zB;rw[af h,af zO]
    have ho:=rH hc (show acc.length+1<=16 by omega) j2
    by_cases h7:tK p=7
    ·rw[ah h7]
     rw[ah h7]at hmv
     have hon:mo f bad X c (acc.length+1) te' (p::r)=mo f bad 5 c (acc++[x]).length te' r:=by
      rw[ay,aZ]
      exact qf hmv zD hsC (hsL zO) (hsT zO) ho
     rw[hon]
     obtain⟨k1,k2⟩:=QF hc r (acc++[x]) te' (by rw[ay,aZ];omega) j2 (j1.tail zO)
     refine⟨k1,λa q h=> ?_⟩
     obtain⟨m1,m2,pre',d,m3,m4,m5,m6,m7,m8⟩:=k2 a q h
     have hc7:ny 7 0 [] (oV++p::pre')=oV::ny 7 0 [] pre':=by
      have:rM 0 (tK p)=0:=by unfold rM;rw[af zO,af zO]
      rw[j7 7 zP,aJ,ny,ah ⟨h7,this⟩,this]
     refine⟨m1,m2,oV++p::pre',d,by rw[j5,m3];simp,m4,?_,?_,?_,?_⟩
     ·rw[m5,bE]
      congr 1
      unfold uf
      rw[hc7,j6];rfl
     ·exact(j7 8 zP).app ((uW.one (t:=p) zO zO zO).app m6)
     ·exact(j7 9 zP).app ((uW.one (t:=p) zO zO zO).app m7)
     ·intro z hz
      rw[hc7]at hz
      rcases aH.1 hz with rfl|hz
      ·exact jw
      ·exact m8 z hz
    ·rw[af h7]
     rw[af h7]at hmv
     by_cases h8:tK p=8
     ·rw[ah h8]
      rw[ah h8]at hmv
      refine⟨λe h=>(by cases h),λa q h=> ?_⟩
      cases h
      refine⟨j1.tail zO,⟨acc.length+1,te',zO,j2,qf hmv (by unfold xy;split<;>decide) hsC (hsL zO) (hsT zO) ho⟩,oV,p,j5,h8,?_,j7 8 zP,j7 9 zP,λz hz=>by rw[(j7 7 zP).all]at hz;rw[aY.1 hz];exact jw⟩
      unfold uf
      rw[(j7 7 zP).all,j6];rfl
     ·rw[af h8]
      rw[af h8]at hmv
      refine⟨λe h=> ?_,λa q h=>by cases h⟩
      cases h
      exact⟨pF hmv,oH _⟩
termination_by l=>l.length
decreasing_by simp only[au]at*;omega
theorem Vr{bad:Flt}{c li te:Nat}(hli:li<=16)(hte:te<=8){t:kR}{l:List kR}(h0:tK t≠0)(hc:c<512\/tK t≠1)(hg:oO (t::l) bad):
  (∀e,nO bad (t::l)= .error e->mo 0 bad 0 c li te (t::l)=e/\e.1≠0)/\
  ∀x q,nO bad (t::l)= .ok (x,q)->c<512/\oO q bad/\(∃li' te',li'<=16/\te'<=8/\mo 0 bad 0 c li te (t::l)=mo 0 bad 0 (c+1) li' te' q)/\ ∃oV d,t::l=oV++d::q/\tK d=8/\uW 8 oV/\x=oM oV/\Dx oV:=by
 by_cases h1:tK t=1
 case neg=>
  have he:nO bad (t::l)= .error (kH t):=by unfold nO;rw[uC h1]
  rw[he]
  refine⟨λe h=> ?_,λa q h=>by cases h⟩
  cases h
  exact⟨pF (by simp [jT,h0,h1]),oH _⟩
 have hc5:c<512:=hc.resolve_right (λq=>q h1)
 have hcap:yN 0 (c+1)=false:=by unfold yN;simp;omega
 have hon:mo 0 bad 0 c li te (t::l)=mo 0 bad 1 (c+1) li te l:=qf (by simp [jT,h1]) zD (by unfold zy;rw[ah ⟨.inl rfl,h1⟩]) (by unfold zA;rw[af zO,af zO]) (by unfold zB;rw[af zO,af zO]) (rH hcap hli hte)
 rw[hon]
 obtain⟨i1,i2⟩:=Dw (f:=0) (N:=1) (bad:=bad) Vp (by simp [jT]) zP hcap hli hte h1 (hg.tail h0)
 unfold nO
 cases ha:nI bad true (t::l)with
 |error e=>exact⟨λe' h=>by cases h;exact i1 e ha,λa q h=>by cases h⟩
 |ok aq=>
  obtain⟨a,q⟩:=aq
  obtain⟨j1,⟨te',X,j2,j3,j4⟩,oV,j5,j6,j7,j8⟩:=i2 a q ha
  rw[j3]
  simp only
  cases q with
  |nil=>exact⟨λe h=>by cases h;exact⟨rfl,j1.nil⟩,λa q h=>by cases h⟩
  |cons p r=>
   simp only
   have hmv:jT 0 X (tK p)=if tK p=8 then 0 else if tK p=9 then 5 else -1:=by
    rcases j4 with rfl|⟨rfl,j4,j4'⟩
    ·simp [jT]
    ·have:=j4' p r rfl
     simp [jT,this]
   have hX:X=4\/X=1:=j4.imp id (λq=>q.1)
   have hsC:zy X (tK p) (c+1)=c+1:=by unfold zy;rw[af zO]
   have hsT:tK p≠5->zB X (tK p) te'=te':=λh=>by unfold zB;rw[af h,af zO]
   by_cases h8:tK p=8
   ·rw[ah h8]
    rw[ah h8]at hmv
    refine⟨λe h=>(by cases h),λa q h=> ?_⟩
    cases h
    refine⟨hc5,j1.tail zO,⟨li,te',hli,j2,qf hmv zD hsC (by unfold zA;rw[af zO,af zO]) (hsT zO) (rH hcap hli j2)⟩,t::oV,p,by rw[j5];rfl,h8,j7 8 zP,?_,t::oV,[],(j7 9 zP).all,zP,.inl rfl⟩
    unfold oM
    rw[(j7 9 zP).all,j6]
   rw[af h8]
   rw[af h8]at hmv
   by_cases h9:tK p=9
   ·rw[ah h9]
    rw[ah h9]at hmv
    have hon2:mo 0 bad X (c+1) li te' (p::r)=mo 0 bad 5 (c+1) ([]:List uD).length te' r:=qf hmv zD hsC (by unfold zA;rw[ah h9];rfl) (hsT zO) (rH hcap zP j2)
    rw[hon2]
    obtain⟨k1,k2⟩:=QF (f:=0) hcap r [] te' zP j2 (j1.tail zO)
    cases hb:pV bad [] r with
    |error e=>exact⟨λe' h=>by cases h;exact k1 e hb,λa q h=>by cases h⟩
    |ok bp=>
     obtain⟨b,q⟩:=bp
     refine⟨λe h=>(by cases h),λx q' h=> ?_⟩
     cases h
     obtain⟨m1,m2,pre',d,m3,m4,m5,m6,m7,m8⟩:=k2 b q hb
     have hc9:ny 9 0 [] (t::oV++p::pre')=[t::oV,pre']:=by
      have:rM 0 (tK p)=0:=by unfold rM;rw[af zO,af zO]
      rw[j7 9 zP,aJ,ny,ah ⟨h9,this⟩,this,m7.all]
     refine⟨hc5,m1,m2,t::oV++p::pre',d,by rw[j5,m3];simp,m4,?_,?_,t::oV,[pre'],hc9,zP,.inr ⟨pre',rfl,m8⟩⟩
     ·exact(j7 8 zP).app ((uW.one (t:=p) zO zO zO).app m6)
     ·unfold oM
      rw[hc9,m5,j6];rfl
   ·rw[af h9]
    rw[af h9]at hmv
    refine⟨λe h=> ?_,λa q h=>by cases h⟩
    cases h
    exact⟨pF hmv,oH _⟩
theorem acZ{bad:Flt}{c li te:Nat}(hli:li<=16)(hte:te<=8){t:kR}{l:List kR}(h0:tK t≠0)(hc:c<4096\/tK t≠1)(hg:oO (t::l) bad):
  (∀e,rq bad (t::l)= .error e->mo 15 bad 15 c li te (t::l)=e/\e.1≠0)/\
  ∀x q,rq bad (t::l)= .ok (x,q)->c<4096/\oO q bad/\(∃li' te',li'<=16/\te'<=8/\mo 15 bad 15 c li te (t::l)=mo 15 bad 15 (c+1) li' te' q)/\ ∃oV d,t::l=oV++d::q/\tK d=8/\uW 8 oV/\x=nz oV/\oV≠[]:=by
 by_cases h1:tK t=1
 case neg=>
  have he:rq bad (t::l)= .error (kH t):=by unfold rq;rw[uC h1]
  rw[he]
  refine⟨λe h=> ?_,λa q h=>by cases h⟩
  cases h
  exact⟨pF (by simp [jT,h0,h1]),oH _⟩
 have hc5:c<4096:=hc.resolve_right (λq=>q h1)
 have hcap:yN 15 (c+1)=false:=by unfold yN;simp;omega
 have hon:mo 15 bad 15 c li te (t::l)=mo 15 bad 16 (c+1) li te l:=qf (by simp [jT,h1]) zD (by unfold zy;rw[ah ⟨.inr rfl,h1⟩]) (by unfold zA;rw[af zO,af zO]) (by unfold zB;rw[af zO,af zO]) (rH hcap hli hte)
 rw[hon]
 obtain⟨i1,i2⟩:=Dw (f:=15) (N:=16) (bad:=bad) Vq (by simp [jT]) zP hcap hli hte h1 (hg.tail h0)
 unfold rq
 cases ha:nI bad false (t::l)with
 |error e=>exact⟨λe' h=>by cases h;exact i1 e ha,λa q h=>by cases h⟩
 |ok aq=>
  obtain⟨a,q⟩:=aq
  obtain⟨j1,⟨te',X,j2,j3,j4⟩,oV,j5,j6,j7,j8⟩:=i2 a q ha
  rw[j3]
  simp only
  cases q with
  |nil=>exact⟨λe h=>by cases h;exact⟨rfl,j1.nil⟩,λa q h=>by cases h⟩
  |cons p r=>
   simp only
   have hmv:jT 15 X (tK p)=if tK p=8 then 15 else -1:=by
    rcases j4 with rfl|⟨rfl,j4,j4'⟩
    ·simp [jT]
    ·have:=j4' p r rfl
     simp [jT,this]
   have hX:X=19\/X=16:=j4.imp id (λq=>q.1)
   by_cases h8:tK p=8
   ·rw[ah h8]
    rw[ah h8]at hmv
    refine⟨λe h=>(by cases h),λa q h=> ?_⟩
    cases h
    refine⟨hc5,j1.tail zO,⟨li,te',hli,j2,qf hmv zD (by unfold zy;rw[af zO]) (by unfold zA;rw[af zO,af zO]) (by unfold zB;rw[af zO,af zO]) (rH hcap hli j2)⟩,t::oV,p,by rw[j5];rfl,h8,j7 8 zP,j6,zP⟩
   ·rw[af h8]
    rw[af h8]at hmv
    refine⟨λe h=> ?_,λa q h=>by cases h⟩
    cases h
    exact⟨pF hmv,oH _⟩
theorem NN {α:Type} {f:Int} {bad:Flt} {m:Nat} {one:List kR->PR α} {hone: ∀l x q,one l= .ok (x,q)->q.length<l.length} {F:List kR->α} {Gd:List kR->Prop} (hf:(f=0/\m=512)\/(f=15/\m=4096))
  (H: ∀{c li te:Nat},li<=16->te<=8-> ∀{t:kR} {l:List kR},tK t≠0->(c<m\/tK t≠1)->oO (t::l) bad->
   (∀e,one (t::l)= .error e->mo f bad f c li te (t::l)=e/\e.1≠0)/\
   ∀x q,one (t::l)= .ok (x,q)->c<m/\oO q bad/\(∃li' te',li'<=16/\te'<=8/\mo f bad f c li te (t::l)=mo f bad f (c+1) li' te' q)/\ ∃oV d,t::l=oV++d::q/\tK d=8/\uW 8 oV/\x=F oV/\Gd oV):
  ∀(l:List kR) (acc:List α) (li te:Nat),acc.length<=m->li<=16->te<=8->oO l bad->
   (∀e,Aj bad m one hone acc l= .error e->mo f bad f acc.length li te l=e/\e.1≠0)/\
   ∀a,Aj bad m one hone acc l= .ok a->mo f bad f acc.length li te l=(0,0)/\a=acc++(rC l).map F/\a.length<=m/\ ∀s∈rC l,Gd s
 |[],acc,li,te,_,_,_,hg=>by
  rw[Dy]
  exact⟨λe h=>by cases h;exact⟨rfl,hg.nil⟩,λa h=>by cases h⟩
 |t::l,acc,li,te,hacc,hli,hte,hg=>by
  by_cases h0:tK t=0
  ·rw[Dz h0]
   refine⟨λe h=>(by cases h),λa h=> ?_⟩
   cases h
   obtain⟨rfl,rfl⟩:=hg.last h0
   have hs:rC [t]=[]:=by
    unfold rC
    rw[ny,af (λq=>zO)]
    rfl
   rw[hs]
   refine⟨?_,zP,hacc,λs hs=>by cases hs⟩
   have hcap:yN f acc.length=false:=by unfold yN;rcases hf with⟨rfl,rfl⟩|⟨rfl,rfl⟩<;>simp<;>omega
   rw[qf (n:=26) (c':=acc.length) (l':=li) (t':=te) (by rcases hf with⟨rfl,rfl⟩|⟨rfl,rfl⟩<;>simp [jT,h0]) zD (by unfold zy;rw[af zO]) (by unfold zA;rw[af zO,af zO]) (by unfold zB;rw[af zO,af zO]) (rH hcap hli hte)]
   rfl
  by_cases hfull:m<=acc.length/\tK t=1
  ·rw[Bz h0 hfull]
   refine⟨λe h=> ?_,λa h=>by cases h⟩
   cases h
   refine⟨Du (e:=24) (by rcases hf with⟨rfl,rfl⟩|⟨rfl,rfl⟩<;>simp [jT,hfull.2]) ?_ zD,(show(24:Int)≠0 by decide)⟩
   have:zy f (tK t) acc.length=acc.length+1:=by unfold zy;rw[ah ⟨zO,hfull.2⟩]
   rw[this];unfold ww;rw[ah (by unfold yN;rcases hf with⟨rfl,rfl⟩|⟨rfl,rfl⟩<;>simp<;>omega)]
  have hcc:acc.length<m\/tK t≠1:=by
   by_cases q:m<=acc.length
   ·exact .inr (λh=>hfull ⟨q,h⟩)
   ·exact .inl zO
  obtain⟨i1,i2⟩:=H (c:=acc.length) hli hte h0 hcc hg
  cases he:one (t::l)with
  |error e=>
   rw[DD h0 hfull he]
   exact⟨λe' h=>by cases h;exact i1 e he,λa h=>by cases h⟩
  |ok xq=>
   obtain⟨x,q⟩:=xq
   obtain⟨j0,j1,⟨li',te',j2,j3,j4⟩,oV,d,j5,j6,j7,j8,jG⟩:=i2 x q he
   rw[GR h0 hfull he,j4]
   have hlen:(acc++[x]).length=acc.length+1:=zP
   have hqlen:=hone _ _ _ he
   obtain⟨k1,k2⟩:=NN (hone:=hone) hf H q (acc++[x]) li' te' zO j2 j3 j1
   rw[<-hlen]
   refine⟨k1,λa h=> ?_⟩
   obtain⟨m1,m2,m3,m4⟩:=k2 a h
   have hd:rM 0 (tK d)=0:=by unfold rM;rw[af zO,af zO]
   have hne:ny 8 0 [] q≠[]:=NM _ _ _ _
   have hs:rC (t::l)=oV::rC q:=by
    unfold rC
    rw[j5,j7,aJ,ny,ah ⟨j6,hd⟩,hd,List.dropLast_cons_of_ne_nil hne]
   rw[hs]
   refine⟨m1,by rw[m2,j8];simp,m3,λs hs'=> ?_⟩
   rcases aH.1 hs' with rfl|hs'
   ·exact jG
   ·exact m4 s hs'
termination_by l=>l.length
decreasing_by simp only[au]at*;omega
theorem LU{bad:Flt}{l:List kR}(hg:oO l bad):(∀e,nQ bad [] l= .error e->mo 0 bad 0 0 0 0 l=e/\e.1≠0)/\ ∀a,nQ bad [] l= .ok a->mo 0 bad 0 0 0 0 l=(0,0)/\a=(rC l).map oM/\a.length<=512/\ ∀s∈rC l,Dx s:=by
 have:=NN (hone:=λ_ _ _ h=>Ai h) (F:=oM) (Gd:=Dx) (.inl ⟨rfl,rfl⟩) (fun{c li te} h1 h2 {t l} h3 h4 h5=>Vr (bad:=bad) h1 h2 h3 h4 h5) l [] 0 0 zP zO zO hg
 exact⟨this.1,λa h=>by have:=this.2 a h;rwa [aJ]at this⟩
theorem IW{bad:Flt}{l:List kR}(hg:oO l bad):(∀e,mh bad [] l= .error e->mo 15 bad 15 0 0 0 l=e/\e.1≠0)/\ ∀a,mh bad [] l= .ok a->mo 15 bad 15 0 0 0 l=(0,0)/\a=(rC l).map nz/\a.length<=4096/\ ∀s∈rC l,s≠[]:=by
 have:=NN (hone:=λ_ _ _ h=>IX h) (F:=nz) (Gd:=λs=>s≠[]) (.inr ⟨rfl,rfl⟩) (fun{c li te} h1 h2 {t l} h3 h4 h5=>acZ (bad:=bad) h1 h2 h3 h4 h5) l [] 0 0 zP zO zO hg
 exact⟨this.1,λa h=>by have:=this.2 a h;rwa [aJ]at this⟩
theorem ZL{s:List UInt8}{l:List kR}{c:Int}{p:Nat}(h:(c≠0/\c≠1/\p<s.length/\ ∀t∈l,t.1≠0)\/(c=0/\p=0/\ahB l s.length)):oO l (c,(p:Int)):=by
 rcases h with h|⟨rfl,rfl,r,rfl,hr⟩
 ·exact .inl ⟨h.1,h.2.2.2⟩
 ·exact .inr ⟨rfl,r,akR s.length,rfl,rfl,hr⟩
end Edict
namespace Edict
theorem LX{go:Nat->Bool}(hg: ∀i,go i=true)(fl:Int×Nat): ∀(l:List kR) (i:Nat),DF go fl i l=(i+l.length,fl)
 |[],i=>rfl
 |t::r,i=>by
  unfold DF
  rw[ah (hg i),LX hg fl r (i+1),au]
  congr 1;omega
theorem LY{s:List UInt8}{k:Nat}(hk:k<=s.length):(mH s k).1.length<=s.length - k+1:=by
 cases hn:oK s k with
 |bad c o=>rw[xR hn];simp
 |ok t=>
  by_cases h0:t.1=0
  ·rw[xS hn h0];simp
  ·rw[zZ hk hn h0]
   obtain⟨c,v,a,p,o,e,rfl,q1,q2,q3,q4⟩:=wW hk hn
   simp only at h0
   have:=q4 h0
   simp only[dH,au]
   have:=LY (s:=s) (k:=e) q2
   omega
termination_by s.length - k
theorem vG(s:List UInt8):(ll s).1.length<=65537:=by
 unfold ll
 split
 ·simp
 ·have:=LY (s:=s) (k:=0) zO
  show(mH s 0).1.length<=_
  omega
end Edict
namespace Go.Ev
open Go Rep Edict
set_option linter.unusedVariables false
theorem qh{u:U}{h:H}{t:kR}{cs:List Value}:rep u h t cs=(cs=kU t):=by simp [lg,mG,mE,kU]
theorem yP:sz kR=6:=rfl
theorem lD {α:Type} [Rep α] {G:lq} {e e':TypeId} {bytes s:Nat} {z cs:List Value} {k p:Nat} {u:U} {h:H} {v:Value} {l:List α} {x:α} {d:Option Nat} {st:su} {r:List St} {K:ku->H->Prop} {KP:List PanicEntry->H->Prop} {σ:ku}
  (hp:p=h.size) (ho:lm k u h v l) (hx:rep u h x cs) (hs:s=sz α) (hz:z.length=sz α) (hk:k<=h.size) (hb:(l.length+1)*bytes<=140737488355328)
  (hK: ∀a n c u' h',lm k u' h' (.slice a n c) (l++[x])->jD (jL v) u h u' h'->(∀b,jL (.slice a n c) b->jL v b\/h.size<=b)->mq st σ (h.push (.cells cs.toArray e')) h'/\kT G r K KP (nD σ d (.slice a n c)) h'):
  nZ G (.app e s bytes z) d st r K KP [v,.slice (some ⟨p,0,none⟩) 1 1] σ (h.push (.cells cs.toArray e')):=by
 subst hp
 exact CU (G:=G) (KP:=KP) (K:=λv' h'=>mq st σ (h.push (.cells cs.toArray e')) h'/\kT G r K KP (nD σ d v') h') ho hx hs hz hk hb (λv' u' h' o' s' b'=>by
  obtain⟨a,c,rfl,-,-⟩:=o'.sl
  exact hK _ _ _ _ _ o' s' b')
end Go.Ev
namespace Go.Proofs.Z
open Go Go.Ev Edict
variable {vs:List Value} {h:H} {K:Value->H->Prop} {KP:List PanicEntry->H->Prop}
def Ym(vs:List Value)(h:H)(K:Value->H->Prop):Prop:= ∃(u:U) (bx k:Nat) (v:Value) (l:List kR) (t:kR),vs=[.agg (kU t).toArray,.pointer (some ⟨bx,0,none⟩)]/\jR u h bx [v]/\lm k u h v l/\bx<k/\k<=h.size/\l.length<=65537/\
 ∀u' h' v',jD (λb=>b=bx\/jL v b) u h u' h'->jR u' h' bx [v']->lm k u' h' v' (l++[t])->(∀b,jL v' b->jL v b\/h.size<=b)->K (.bool true) h'
theorem Vt(hC:Ym vs h K):kN Tryz.prog 90 vs h K KP:=by
 obtain⟨u,bx,k,v,l,t,rfl,hB,ho,hbk,hk,hl,hK⟩:=hC
 have hB1:=hB.1
 obtain⟨va,vc,rfl,hv1,hv2⟩:=ho.sl
 refine jJ 15 [(none,(.t 3))] (G:=(λ_ _ _ _ _=>False)) (λ_ _ _ _ _ h=>h.elim) Tryz.func90 ?_
 have sp:=jD.qZ S0 u h (kU t).toArray 46
 have B1:=hB.sZ sp
 have o1:=ho.sZ sp
 simp only[kU]at sp B1 o1 ⊢
 simp(disch:=first|omega|simp only[zz];try omega;done) only[↓reduceIte,go_sem,hB.at,hB.2.1]
 refine lD (by simp only[kw]) o1 (x:=t) (by rw[qh];rfl) rfl rfl zY zO λa n c u2 h2 ho2 s2 hO=> ?_
 have hne: ∀b,jL (.slice va l.length vc) b->k<=b:=λb hb=>ho.ge hb
 have B2:=B1.step s2 (λhb=>by have:=hne _ hb;omega)
 have B21:=B2.1
 refine⟨jO,?_⟩
 have ss:=jD.set (S:=λb=>b=bx) u2 h2 (o:=0) (.slice a n c) (b:=bx) rfl (by rw[B2.2.2.2.1];exact aj _)
 have st:jD (λb=>b=bx\/jL (.slice va l.length vc) b) u h u2 (ky h2 bx 0 (.slice a n c)):=
  ((sp.mono (S':=λb=>b=bx\/jL (.slice va l.length vc) b) (λ_ _ h=>h.elim)).trans s2 (λb _ hb=> .inr hb)).trans ss (λb _ hb=> .inl hb)
 have B3:=B2.set (i:=0) (v:= .slice a n c) zP
 simp only[↓reduceIte,go_sem,B2.2.1,B2.2.2.1]
 exact hK _ _ _ st B3 (ho2.step ss (λb hb he=>by have:=ho2.ge hb;omega)) (λb hb=>(hO b hb).imp id λq=>by simp at q;omega)
def ac5:lq:=λf vs h K _=>f=90/\Ym vs h K
theorem ZO:lQ Tryz.prog ac5:=by
 rintro f vs h K KP ⟨rfl,hC⟩;exact Vt hC
def ajc(vs:List Value)(h:H)(K:Value->H->Prop):Prop:= ∃(u:U) (s:List UInt8),vs=[str s]/\s.length<=9223372036854775807/\UH u h/\ ∀u' h' v,jD S0 u h u' h'->lm h.size u' h' v (ll s).1->K (.tuple #[v,.agg (jH (ll s).2.1 (ll s).2.2).toArray]) h'
def ac6:lq:=λf vs h K _=>f=89/\ac4 ac5 vs h K
theorem QM:lQ Tryz.prog ac6:=by
 rintro f vs h K KP ⟨rfl,hC⟩;exact ZN ZO hC
theorem ZP(hC:ajc vs h K):kN Tryz.prog 50 vs h K KP:=by
 obtain⟨u,s,rfl,hl,hG,hK⟩:=hC
 refine jJ 61 [(none,(.t 2)),((some (.c1 (.ldn 3) (.t 3))),(.o1 (.ldn 3) (.t 3)))] QM Tryz.func50 ?_
 have R1:=jR.new (u:=u) (h:=h) (jH 0 0) 27
 have R2:=R1.pZ (c:= #[.slice none 0 0]) (t:=59)
 have b2:=jR.new (u:=ub u h.size 0) (h:=h.push (.cells (jH 0 0).toArray 27)) [.slice none 0 0] 59
 have st2:=((jD.refl S0 u h).pZ (c:=(jH 0 0).toArray) (t:=27)).pZ (c:= #[.slice none 0 0]) (t:=59)
 have hlen:=vG s
 simp only[kw,jH]at R2 b2 st2
 simp only[↓reduceIte,go_sem,ahp]
 obtain⟨h2,hh2⟩:=kg ((h.push (.cells (jH 0 0).toArray 27)).push (.cells #[.slice none 0 0] 59))
 obtain⟨u2,hu2⟩:=kg (ub (ub u h.size 0) (h.size+1) 0)
 simp only[jH]at hh2
 rw[<-hh2,<-hu2]at R2 b2 st2
 rw[<-hh2]
 have hs2:h2.size=h.size+2:=by rw[hh2];simp
 refine jC ⟨rfl,u2,s,_,λ_=>true,λb=>b=h.size+1,λi O u' h'=> ∃v,O=(λb=>b=h.size+1\/jL v b)/\jR u' h' (h.size+1) [v]/\lm (h.size+2) u' h' v ((ll s).1.take i)/\h.size+2<=h'.size,rfl,hl,hG.mono st2.ge,?_,?_,?_,?_,?_⟩
 ·refine⟨.slice none 0 0,?_,b2,.nil _ _ _,zO⟩
  funext b
  apply propext
  refine⟨.inl,λq=> ?_⟩
  rcases q with q|⟨o,n,c,q⟩
  ·exact q
  ·cases q
 ·rintro i O u1 h1 ⟨v,rfl,q1,q2,q3⟩ b hb
  rcases hb with rfl|hb
  ·exact q1.1
  ·exact q2.lt hb
 ·rintro i O T u1 h1 u3 h3 ⟨v,rfl,q1,q2,q3⟩ st hT
  exact⟨v,rfl,q1.step st (hT _ (.inl rfl)),q2.step st (λb hb=>hT b (.inr hb)),aT q3 st.ge.sz⟩
 ·refine .inr ⟨90,[.pointer (some ⟨h.size+1,0,none⟩)],rfl,?_⟩
  rintro i t O u1 h1 Q QP hti ⟨v,rfl,q1,q2,q3⟩ - hQ
  have hi:=(aB.1 hti).1
  refine⟨rfl,u1,h.size+1,h.size+2,v,_,t,rfl,q1,q2,zO,q3,by rw[aR];omega,λu3 h3 v3 s3 b3 o3 hO3=> ?_⟩
  refine hQ (λb=>b=h.size+1\/jL v3 b) u3 h3 s3 ⟨v3,rfl,b3,?_,aT q3 s3.ge.sz⟩ (λb hb=> ?_)
  ·rw[aX,hti];exact o3
  ·rcases hb with hb|hb
   ·exact .inl (.inl hb)
   ·exact(hO3 b hb).imp .inr id
 ·rintro u3 h3 O m c o s3 ⟨v,rfl,q1,q2,q3⟩ hO he
  rw[LX (λ_=>rfl)]at he
  simp only[bJ,dB]at he
  obtain⟨rfl,he⟩:=he
  rw[aK]at q2
  have hc:(ll s).2.1=c:=by rw[he]
  have ho:(ll s).2.2=o:=by rw[he]
  rw[hc,ho]at hK
  have R3:=R2.step s3 zO
  have st3:=st2.trans s3 (λb hb hq=>zO)
  obtain⟨va,vc,rfl,-,-⟩:=q2.sl
  have q11:=q1.1;have R31:=R3.1
  have R32:=R3.2.1
  simp only[au,aA]at R32
  have w1:=st3.rZ (b:=h.size) (o:=0) (l:=jH c o) (.inl (ak _)) (by rw[R3.2.2.2.1];exact aj _) (by rw[R32];simp [jH])
  have w2:=jD.sets (S:=λb=>b=h.size) u3 h3 (b:=h.size) (o:=0) (jH c o) rfl (by rw[R3.2.2.2.1];exact aj _) (by rw[R32];simp [jH])
  have R4:=R3.sets (l:=jH c o) rfl
  have f0:(jW h3 h.size 0 (jH c o)).size=h3.size:=lI _ _ _ _
  have q5:=q2.step w2 (λb hb he=>by have:=q2.ge hb;omega)
  refine⟨jO,?_⟩
  simp only[jH]at w1 R4 f0 q5
  have R41:=R4.1
  simp only[jH]
  simp(disch:=first|omega|simp only[zz];try omega;done) only[↓reduceIte,go_sem,q1.at,q1.2.1,R32,R3.2.2.1,R4.at,R4.2.1]
  exact hK _ _ _ w1.pZ ((q5.sZ (jD.qZ S0 _ _ _ _)).mono zO)
end Go.Proofs.Z
