/- A part of the proof. -/
import Derived.Test.YtbnkepecoeohjaaGreatDoorTaJ
import Derived.Test.YtbnkepecoeohjaaGreatDoorTq6
import Derived.Test.YtbnkepecoeohjaaGreatDoorTpW
set_option linter.all false
set_option maxRecDepth 100000
set_option maxHeartbeats 4000000
namespace Edict
theorem DZ{α β:Type}{f:α->List β}{l:List α}{k:Nat}{x:α}(hx:l[k]? =some x):(l.take (k+1)).flatMap f=(l.take k).flatMap f++f x:=by
 rw[aS,hx];simp
theorem zu{α β:Type}{f:α->List β}{n:Nat}: ∀{l:List α},(∀x∈l,(f x).length<=n)->(l.flatMap f).length<=n*l.length
 |[],_=>by simp
 |x::l,h=>by
  have h1:=h x (by simp)
  have h2:=zu (f:=f) (l:=l) (λy q=>h y (by simp [q]))
  rw[dQ,aN,aM,Nat.mul_succ];omega
theorem ad7{c:kX}(h:mH c):(Ze c).length<=340:=by
 have h1:=xZ c.1
 have h2:=FR (l:=c.2) (f:=true) (λx q=>(h.2.2 x q).1)
 have:=h.1
 have:=h.2.1
 unfold Ze
 simp only[aN,bz]
 split<;>simp only[bg,aM]<;>omega
end Edict
namespace Go.Proofs.Z
open Go Go.Ev Edict
variable {vs:List Value} {h:H} {K:Value->H->Prop} {KP:List PanicEntry->H->Prop}
def ab2:mG:=λf vs h K _=>(f=90/\NU vs h K)\/(f=88/\BF vs h K)\/(f=89/\IX vs h K)
theorem EM:nz Tryz.prog ab2:=mK Ea (mK AL (qd JI))
def EN(vs:List Value)(h:H)(K:Value->H->Prop):Prop:= ∃(u:U) (p:List lH) (v:Value),vs=[v]/\kM u h v p/\p.length<=4096/\(∀a∈p,a.2.1.length<=8)/\ ∀u' h' w,kG S0 u h u' h'->mr h.size u' h' w (ftF p)->K w h'
theorem IW(hC:EN vs h K):ma Tryz.prog 56 vs h K KP:=by
 obtain⟨u,p,v,rfl,iv,hp,h8,hK⟩:=hC
 refine kP 1005 [(none,(.t 2))] EM Tryz.func56 (by kernel_rfl) (by conv=>lhs;cbv;try simp only[mF]) ?_
 obtain⟨ta,tc,rfl,-,-⟩:=iv.sl
 simp(disch:=first|omega|simp only[zz];try omega;done) only[↓reduceIte,go_sem]
 obtain⟨F,hF⟩:=kJ (α:=lH->List Edict.Tok) λa=>Od a++[uf 8]
 have hFl: ∀a∈p,(F a).length<=19:=λa ha=>by rw[hF];have:=xZ a;have:=h8 a ha;simp only[aN,bz];omega
 obtain⟨I,hI⟩:=kJ (α:=Nat->lm->H->Prop) λk σ h'=> ∃(u':U) (w:Value),σ 3=w/\σ 6= .slice ta p.length tc/\σ 7= .int .i64 p.length/\σ 8= .int .i64 k/\k<=p.length/\kG S0 u h u' h'/\mr h.size u' h' w ((p.take k).flatMap F)
 refine kH I (λk=>p.length - k) 0 (by rw[hI];exact⟨u,_,by simp [kF],by simp [kF],by simp [kF],by simp [kF],by omega,kG.refl _ _ _,.nil _ _ _⟩) ?_
 intro k σ h' hi
 rw[hI]at hi
 obtain⟨u',w,e3,e6,e7,e8,hk,st,ow⟩:=hi
 obtain⟨M,hM⟩:=kJ (α:=List Edict.Tok) ((p.take k).flatMap F)
 have hlen:M.length<=77824:=by
  have:=zu (f:=F) (n:=19) (l:=p.take k) (λx q=>hFl x (ed q))
  rw[aT]at this
  rw[hM];omega
 rw[<-hM]at ow
 obtain⟨wa,wc,rfl,-,-⟩:=ow.sl
 by_cases hlt:k<p.length
 case neg=>
  rw[aK (by omega)]at hM
  simp(disch:=first|omega|simp only[zz];try omega;done) only[↓reduceIte,go_sem,e7,e8,au (show¬(k:Int)<p.length by omega)]
  refine kD (.inl ⟨rfl,u',0,rfl,fun(u3:U) (h3:H) s3=>⟨kY,?_⟩⟩)
  have o3:=ow.sZ s3
  have z3:=(st.tZ s3).ge.sz
  simp only[lK,uf]
  simp(disch:=first|omega|simp only[zz];try omega;done) only[↓reduceIte,go_sem,e3]
  refine kK (by simp only[]) o3 (x:=uf 0) (by rw[mJ];rfl) rfl rfl z3 (by omega) λa4 n4 c4 u4 h4 o4 s4 hO4=>⟨kY,?_⟩
  simp(disch:=first|omega|simp only[zz];try omega;done) only[↓reduceIte,go_sem,Vs]
  refine hK _ _ _ ((st.tZ s3).own s4 λb q=>o3.ge q) ?_
  unfold ftF
  rw[<-hF,<-hM]
  exact o4
 obtain⟨x,hx⟩:=uu hlt
 have hsn:=DZ (f:=F) hx
 rw[<-hM]at hsn
 have hFx:F x=Od x++[uf 8]:=by rw[hF]
 have hx8:=h8 x (aI hx)
 have hal:=xZ x
 have iw:=iv.mono st.ge
 obtain⟨pb,po,rfl,hpb,hpu,hpz,hpr⟩:=iw.row k x hx
 rw[oK]at hpr
 obtain⟨xv,hpr,ixv⟩:=hpr
 obtain⟨xa,xc,rfl,-,-⟩:=ixv.sl
 simp only[uU,vD,aG,aP]at hpr hpu hpz
 obtain⟨p0,p1,p2⟩:=hpr
 obtain⟨h5',h6,u6,hh5,hh6,B5,B6,s6,hz6⟩:=kZ u' h' [str [],.slice none 0 0,.int .i64 0] [str x.1,.slice xa x.2.1.length xc,.int .i64 x.2.2] 52 rfl
 have st6:=st.tZ s6
 have o6:=ow.sZ s6
 have B51:=B5.1
 have B61:=B6.1
 simp(disch:=first|omega|simp only[zz];try omega;done) only[↓reduceIte,go_sem,e6,e7,e8,af (show(k:Int)<(p.length:Nat) by omega),p0,p1,p2,<-hh5,<-hh6,B5.2.1,B5.2.2.1,B6.at,B6.2.1]
 refine kD (.inr (.inl ⟨rfl,u6,x,_,rfl,ixv.mono s6.ge,hx8,fun(uA:U) (hA:H) wA sA oA=>⟨kY,?_⟩⟩))
 have o9:=o6.sZ sA
 have st9:=st6.tZ sA
 have z9:=st9.ge.sz
 obtain⟨aA,cA,rfl,-,-⟩:=oA.sl
 simp(disch:=first|omega|simp only[zz];try omega;done) only[↓reduceIte,go_sem,e3]
 refine qY o9 oA.iZ rfl rfl z9 (by omega) λaB nB cB uB hB oB sB=>⟨kY,?_⟩
 have stB:=st9.own sB λb q=>o9.ge q
 obtain⟨M2,hM2⟩:=kJ (α:=List Edict.Tok) (M++Od x)
 have hlen2:M2.length<=77842:=by rw[hM2,aN];omega
 rw[<-hM2]at oB
 obtain⟨_,_,hme,-,-⟩:=oB.sl
 simp only[Value.slice.injEq]at hme
 obtain⟨rfl,rfl,rfl⟩:=hme
 simp(disch:=first|omega|simp only[zz];try omega;done) only[↓reduceIte,go_sem,Vs]
 refine kD (.inl ⟨rfl,uB,8,rfl,fun(uC:U) (hC:H) sC=>⟨kY,?_⟩⟩)
 have oC:=oB.sZ sC
 have zC:=(stB.tZ sC).ge.sz
 simp only[lK,uf]
 simp(disch:=first|omega|simp only[zz];try omega;done) only[↓reduceIte,go_sem,Vs]
 refine kK (by simp only[]) oC (x:=uf 8) (by rw[mJ];rfl) rfl rfl zC (by omega) λaD nD cD uD hD oD sD hOD=>⟨kY,?_⟩
 have stD:=(stB.tZ sC).own sD λb q=>oC.ge q
 simp(disch:=first|omega|simp only[zz];try omega;done) only[↓reduceIte,go_sem,e8]
 refine⟨k+1,?_,by omega⟩
 rw[hI]
 exact⟨uD,.slice aD nD cD,by simp [kF],by simp [kF,e6],by simp [kF,e7],by simp [kF],hlt,stD,by rw[hsn,hFx,<-bB,<-hM2];exact oD⟩
def ab3(vs:List Value)(h:H)(K:Value->H->Prop):Prop:= ∃(u:U) (p:List kX) (v:Value),vs=[.agg #[v]]/\kM u h v p/\p.length<=512/\(∀c∈p,mH c/\ ∀x∈c.2,wB x)/\ ∀u' h' w,kG S0 u h u' h'->mr h.size u' h' w (ftP p)->K (.tuple #[w,.bool true]) h'
theorem YV(hC:ab3 vs h K):ma Tryz.prog 53 vs h K KP:=by
 obtain⟨u,p,v,rfl,iv,hp,hfine,hK⟩:=hC
 refine kP 4311760351 [(none,(.t 2)),(none,(.t 3))] EM Tryz.func53 (by kernel_rfl) (by conv=>lhs;cbv;try simp only[mF]) ?_
 obtain⟨ta,tc,rfl,-,-⟩:=iv.sl
 obtain⟨h1,u1,hh1,zh1,p1,P1⟩:=kL u h [.slice ta p.length tc] 87
 have P11:=P1.1
 simp(disch:=first|omega|simp only[zz];try omega;done) only[↓reduceIte,go_sem,<-hh1,P1.at,P1.2.1]
 obtain⟨I,hI⟩:=kJ (α:=Nat->lm->H->Prop) λk σ h'=> ∃(u':U) (w:Value),σ 4=w/\σ 10= .slice ta p.length tc/\σ 11= .int .i64 p.length/\σ 12= .int .i64 k/\k<=p.length/\kG S0 u h u' h'/\mr h.size u' h' w ((p.take k).flatMap Ze)
 refine kH I (λk=>p.length - k) 0 (by rw[hI];exact⟨u1,_,by simp [kF],by simp [kF],by simp [kF],by simp [kF],by omega,p1,.nil _ _ _⟩) ?_
 intro k σ h' hi
 rw[hI]at hi
 obtain⟨u',w,e4,e10,e11,e12,hk,st,ow⟩:=hi
 obtain⟨M,hM⟩:=kJ (α:=List Edict.Tok) ((p.take k).flatMap Ze)
 have hlen:M.length<=174080:=by
  have:=zu (f:=Ze) (n:=340) (l:=p.take k) (λx q=>ad7 (hfine x (ed q)).1)
  rw[aT]at this
  rw[hM];omega
 rw[<-hM]at ow
 obtain⟨wa,wc,rfl,-,-⟩:=ow.sl
 by_cases hlt:k<p.length
 case neg=>
  rw[aK (by omega)]at hM
  simp(disch:=first|omega|simp only[zz];try omega;done) only[↓reduceIte,go_sem,e11,e12,au (show¬(k:Int)<p.length by omega)]
  refine kD (.inl ⟨rfl,u',0,rfl,fun(u3:U) (h3:H) s3=>⟨kY,?_⟩⟩)
  have o3:=ow.sZ s3
  have z3:=(st.tZ s3).ge.sz
  simp only[lK,uf]
  simp(disch:=first|omega|simp only[zz];try omega;done) only[↓reduceIte,go_sem,e4]
  refine kK (by simp only[]) o3 (x:=uf 0) (by rw[mJ];rfl) rfl rfl z3 (by omega) λa4 n4 c4 u4 h4 o4 s4 hO4=>⟨kY,?_⟩
  simp(disch:=first|omega|simp only[zz];try omega;done) only[↓reduceIte,go_sem,Vs]
  refine hK _ _ _ ((st.tZ s3).own s4 λb q=>o3.ge q) ?_
  unfold ftP
  rw[<-hM]
  exact o4
 obtain⟨x,hx⟩:=uu hlt
 have hsn:=DZ (f:=Ze) hx
 rw[<-hM]at hsn
 obtain⟨hxf,hxt⟩:=hfine x (aI hx)
 have hx8:=hxf.1
 have hal:=xZ x.1
 have hbl:=FR (l:=x.2) (f:=true) (λy q=>(hxf.2.2 y q).1)
 have hx16:=hxf.2.1
 have iw:=iv.mono st.ge
 obtain⟨pb,po,rfl,hpb,hpu,hpz,hpr⟩:=iw.row k x hx
 rw[rE]at hpr
 obtain⟨xv,yv,hpr,ixv,iyv⟩:=hpr
 obtain⟨xa,xc,rfl,-,-⟩:=ixv.sl
 obtain⟨ya,yc,rfl,-,-⟩:=iyv.sl
 simp only[vo,uH,aG,aP]at hpr hpu hpz
 obtain⟨p0,p1',p2,p3⟩:=hpr
 obtain⟨h5',h6,u6,hh5,hh6,B5,B6,s6,hz6⟩:=kZ u' h' [str [],.slice none 0 0,.int .i64 0,.slice none 0 0] [str x.1.1,.slice xa x.1.2.1.length xc,.int .i64 x.1.2.2,.slice ya x.2.length yc] 147 rfl
 have st6:=st.tZ s6
 have o6:=ow.sZ s6
 have B51:=B5.1
 have B61:=B6.1
 obtain⟨xb,hxb⟩:=kJ h'.size
 rw[<-hxb]at B5 B51 B6 B61 hh6
 have hnx: ¬kN (.slice wa M.length wc) xb:=λq=>by have:=ow.lt q;omega
 simp(disch:=first|omega|simp only[zz];try omega;done) only[↓reduceIte,go_sem,e10,e11,e12,af (show(k:Int)<(p.length:Nat) by omega),p0,p1',p2,p3,<-hxb,<-hh5,<-hh6,B5.2.1,B5.2.2.1,B6.at,B6.2.1]
 refine kD (.inr (.inl ⟨rfl,u6,x.1,_,rfl,ixv.mono s6.ge,hx8,fun(uA:U) (hA:H) wA sA oA=>⟨kY,?_⟩⟩))
 have o9:=o6.sZ sA
 have st9:=st6.tZ sA
 have z9:=st9.ge.sz
 have B9:=B6.sZ sA
 obtain⟨aA,cA,rfl,-,-⟩:=oA.sl
 simp(disch:=first|omega|simp only[zz];try omega;done) only[↓reduceIte,go_sem,e4]
 refine qY o9 oA.iZ rfl rfl z9 (by omega) λaB nB cB uB hB oB sB=>⟨kY,?_⟩
 have stB:=st9.own sB λb q=>o9.ge q
 have BB:=B9.step sB hnx
 have BB1:=BB.1
 have iyB:=iyv.mono ((s6.ge.trans sA.ge).trans sB.ge)
 obtain⟨M2,hM2⟩:=kJ (α:=List Edict.Tok) (M++Od x.1)
 have hlen2:M2.length<=174098:=by rw[hM2,aN];omega
 rw[<-hM2]at oB
 obtain⟨_,_,hme,-,-⟩:=oB.sl
 simp only[Value.slice.injEq]at hme
 obtain⟨rfl,rfl,rfl⟩:=hme
 rcases dG (x.2=[])with hb0|hb0
 ·have hft:Ze x=Od x.1++[uf 8]:=by unfold Ze;rw[ay hb0];rfl
  have hl0:x.2.length=0:=by rw[hb0];rfl
  simp(disch:=first|omega|simp only[zz];try omega;done) only[↓reduceIte,go_sem,BB.at,BB.2.1,au (show¬(0:Int)<(x.2.length:Int) by omega)]
  refine kD (.inl ⟨rfl,uB,8,rfl,fun(uC:U) (hC:H) sC=>⟨kY,?_⟩⟩)
  have oC:=oB.sZ sC
  have zC:=(stB.tZ sC).ge.sz
  simp only[lK,uf]
  simp(disch:=first|omega|simp only[zz];try omega;done) only[↓reduceIte,go_sem,Vs]
  refine kK (by simp only[]) oC (x:=uf 8) (by rw[mJ];rfl) rfl rfl zC (by omega) λaD nD cD uD hD oD sD hOD=>⟨kY,?_⟩
  have stD:=(stB.tZ sC).own sD λb q=>oC.ge q
  simp(disch:=first|omega|simp only[zz];try omega;done) only[↓reduceIte,go_sem,e12]
  refine⟨k+1,?_,by omega⟩
  rw[hI]
  exact⟨uD,.slice aD nD cD,by simp [kF],by simp [kF,e10],by simp [kF,e11],by simp [kF],hlt,stD,by rw[hsn,hft,<-bB,<-hM2];exact oD⟩
 ·have hft:Ze x=Od x.1++((uf 9::Jm true x.2)++[uf 8]):=by unfold Ze;rw[ah hb0]
  have hl0:0<x.2.length:=fO.2 hb0
  simp(disch:=first|omega|simp only[zz];try omega;done) only[↓reduceIte,go_sem,BB.at,BB.2.1,af (show(0:Int)<(x.2.length:Int) by omega)]
  refine kD (.inr (.inr ⟨rfl,uB,x.2,_,rfl,iyB,hx16,λy hy=>⟨hxf.2.2 y hy,hxt y hy⟩,fun(uC:U) (hC:H) wC sC bC=>⟨kY,?_⟩⟩))
  obtain⟨bCa,bCc,rfl,-,-⟩:=bC.sl
  have oC:=oB.sZ sC
  have stC:=stB.tZ sC
  simp(disch:=first|omega|simp only[zz];try omega;done) only[↓reduceIte,go_sem,Vs]
  refine kD (.inl ⟨rfl,uC,9,rfl,fun(uD:U) (hD:H) sD=>⟨kY,?_⟩⟩)
  have oD:=oC.sZ sD
  have stD:=stC.tZ sD
  have bD:=bC.sZ sD
  have zD:=stD.ge.sz
  simp only[lK,uf]
  simp(disch:=first|omega|simp only[zz];try omega;done) only[↓reduceIte,go_sem,Vs]
  refine kK (by simp only[]) oD (x:=uf 9) (by rw[mJ];rfl) rfl rfl zD (by omega) λaE nE cE uE hE oE sE hOE=>⟨kY,?_⟩
  have stE:=stD.own sE λb q=>oD.ge q
  have bE:=bD.iZ.mono sE.ge
  obtain⟨M3,hM3⟩:=kJ (α:=List Edict.Tok) (M2++[uf 9])
  have hlen3:M3.length<=174099:=by rw[hM3,aN,bz];omega
  rw[<-hM3]at oE
  obtain⟨_,_,hme,-,-⟩:=oE.sl
  simp only[Value.slice.injEq]at hme
  obtain⟨rfl,rfl,rfl⟩:=hme
  have zE:=stE.ge.sz
  simp(disch:=first|omega|simp only[zz];try omega;done) only[↓reduceIte,go_sem,Vs]
  refine qY oE bE rfl rfl zE (by omega) λaF nF cF uF hF oF sF=>⟨kY,?_⟩
  have stF:=stE.own sF λb q=>oE.ge q
  obtain⟨M4,hM4⟩:=kJ (α:=List Edict.Tok) (M3++Jm true x.2)
  have hlen4:M4.length<=174419:=by rw[hM4,aN];omega
  rw[<-hM4]at oF
  obtain⟨_,_,hme,-,-⟩:=oF.sl
  simp only[Value.slice.injEq]at hme
  obtain⟨rfl,rfl,rfl⟩:=hme
  simp(disch:=first|omega|simp only[zz];try omega;done) only[↓reduceIte,go_sem,Vs]
  refine kD (.inl ⟨rfl,uF,8,rfl,fun(uG:U) (hG:H) sG=>⟨kY,?_⟩⟩)
  have oG:=oF.sZ sG
  have zG:=(stF.tZ sG).ge.sz
  simp only[lK,uf]
  simp(disch:=first|omega|simp only[zz];try omega;done) only[↓reduceIte,go_sem,Vs]
  refine kK (by simp only[]) oG (x:=uf 8) (by rw[mJ];rfl) rfl rfl zG (by omega) λaX nX cX uX hX oX sX hOX=>⟨kY,?_⟩
  have stX:=(stF.tZ sG).own sX λb q=>oG.ge q
  simp(disch:=first|omega|simp only[zz];try omega;done) only[↓reduceIte,go_sem,e12]
  refine⟨k+1,?_,by omega⟩
  rw[hI]
  exact⟨uX,.slice aX nX cX,by simp [kF],by simp [kF,e10],by simp [kF,e11],by simp [kF],hlt,stX,by rw[hsn,hft,<-bB,<-hM2,show M2++((uf 9::Jm true x.2)++[uf 8])=M4++[uf 8] by rw[hM4,hM3];simp];exact oX⟩
end Go.Proofs.Z
namespace Go.Proofs.Z
open Go Go.Ev Edict
theorem WU{u:U}{h:H}(c1 c2:List Value)(t1 t2:TypeId): ∃u2,kG S0 u h u2 ((h.push (.cells c1.toArray t1)).push (.cells c2.toArray t2))/\kV u2 ((h.push (.cells c1.toArray t1)).push (.cells c2.toArray t2)) h.size c1/\kV u2 ((h.push (.cells c1.toArray t1)).push (.cells c2.toArray t2)) (h.size+1) c2:=
 ⟨_,(kG.qZ S0 u h c1.toArray t1).tZ (kG.qZ S0 _ _ c2.toArray t2),(kV.new c1 t1).pZ,by have:=kV.new (u:=ub u h.size 0) (h:=h.push (.cells c1.toArray t1)) c2 t2;simpa using this⟩
def DY(vs:List Value)(h:H)(K:Value->H->Prop):Prop:= ∃(u:U) (v w:Value) (l m:List Edict.Tok),vs=[v,w]/\kM u h v l/\kM u h w m/\TokMs l m/\l.length<=65537/\ ∀u' h',kG S0 u h u' h'->K (.bool true) h'
theorem CL{vs:List Value}{h:H}{K:Value->H->Prop}{KP:List PanicEntry->H->Prop}(hC:DY vs h K):ma Tryz.prog 54 vs h K KP:=by
 obtain⟨u,v,w,l,m,rfl,iv,iw,hm,hl6,hK⟩:=hC
 obtain⟨va,vc,rfl,-,-⟩:=iv.sl
 obtain⟨wa,wc,rfl,-,-⟩:=iw.sl
 have hlm:=hm.len
 refine kP 9223372036854894835 [(none,(.t 4))] (G:=(λ_ _ _ _ _=>False)) (λ_ _ _ _ _ h=>h.elim) Tryz.func54 (by kernel_rfl) (by conv=>lhs;cbv;try simp only[mF]) ?_
 rw[<-hlm]
 simp(disch:=first|omega|simp only[zz];try omega;done) only[↓reduceIte,go_sem]
 obtain⟨I,hI⟩:=kJ (α:=Nat->lm->H->Prop) λk σ h'=> ∃u',σ 0= .slice va l.length vc/\σ 1= .slice wa l.length wc/\σ 14= .int .i64 (l.length:Nat)/\σ 15= .int .i64 k/\k<=l.length/\kG S0 u h u' h'
 refine kH I (λj=>l.length - j) 0 (by rw[hI];exact⟨u,by simp [kF],by simp [kF],by simp [kF],by simp [kF],by omega,kG.refl _ _ _⟩) ?_
 intro k σ h' hy
 rw[hI]at hy
 obtain⟨u',e0,e1,e14,e15,hk,st⟩:=hy
 by_cases hlt:k<l.length
 case neg=>
  simp(disch:=first|omega|simp only[zz];try omega;done) only[↓reduceIte,go_sem,e14,e15,au (show¬(k:Int)<(l.length:Nat) by omega)]
  exact hK _ _ st
 obtain⟨x,hx⟩:=uu hlt
 obtain⟨y,hy⟩: ∃y,m[k]? =some y:=⟨m[k],by simp [<-hlm,hlt]⟩
 obtain⟨m1,m2,m3,m4,m5⟩:=hm.at k x y hx hy
 have jv:=iv.mono st.ge
 have jw:=iw.mono st.ge
 obtain⟨pb,po,rfl,hpb,hpu,hpz,hpr⟩:=jv.row k x hx
 obtain⟨qb,qo,rfl,hqb,hqu,hqz,hqr⟩:=jw.row k y hy
 rw[mJ]at hpr hqr
 obtain⟨x0,x1,x2,x3,x4,x5⟩:=x
 obtain⟨y0,y1,y2,y3,y4,y5⟩:=y
 simp only[lK,Bi,El,aG,aP]at hpr hpu hpz hqr hqu hqz
 simp only at m1 m2 m3 m4 m5
 subst m1 m2 m3 m4
 obtain⟨p0,p1,p2,p3,p4,p5⟩:=hpr
 obtain⟨q0,q1,q2,q3,q4,q5⟩:=hqr
 simp(disch:=first|omega|simp only[zz];try omega;done) only[↓reduceIte,go_sem,e14,e15,af (show(k:Int)<(l.length:Nat) by omega)]
 refine SV (λσ' h2=>JS σ σ' [0,1,14,15]/\ ∃u2 b6 b7,kG S0 u' h' u2 h2/\σ' 6= .pointer (some ⟨b6,0,none⟩)/\σ' 7= .pointer (some ⟨b7,0,none⟩)/\kV u2 h2 b6 [.int .i64 x0,str x1,.int .i64 x2,.int .i64 x3,.int .i64 x4,.int .i64 x5]/\kV u2 h2 b7 [.int .i64 x0,str x1,.int .i64 x2,.int .i64 x3,.int .i64 y4,.int .i64 y5]) ?_ ?_
 ·simp(disch:=first|omega|simp only[zz];try omega;done) only[↓reduceIte,go_sem,SE,e0,e1,e14,e15,hlt,p0,p1,p2,p3,p4,p5,q0,q1,q2,q3,q4,q5]
  refine⟨?_,?_⟩
  ·exact WU _ _ _ _
  ·obtain⟨u2,s,a,b⟩:=WU (u:=u') (h:=h') [.int .i64 x0,str x1,.int .i64 x2,.int .i64 x3,.int .i64 y4,.int .i64 y5] [.int .i64 x0,str x1,.int .i64 x2,.int .i64 x3,.int .i64 x4,.int .i64 x5] 177 177
   exact⟨u2,s,b,a⟩
 ·rintro σ' h2 ⟨hkE,u2,b6,b7,s2,e6,e7,A6,A7⟩
  simp(disch:=first|omega|simp only[zz];try omega;done) only[↓reduceIte,go_sem,e0,e1,e14,e15]at hkE
  obtain⟨k0,k1,k14,k15⟩:=hkE
  have A61:=A6.1
  have A71:=A7.1
  rcases dG (y5= -1)with hy5|hy5
  ·simp(disch:=first|omega|simp only[zz];try omega;done) only[↓reduceIte,go_sem,k15,e6,e7,A6.at,A6.2.1,A7.at,A7.2.1,af hy5]
   refine⟨k+1,?_,by omega⟩
   rw[hI]
   refine⟨u2,?_,?_,?_,?_,hlt,st.tZ s2⟩<;>simp [kF,k0,k1,k14]
  ·have m5:=m5.resolve_left hy5
   simp(disch:=first|omega|simp only[zz];try omega;done) only[↓reduceIte,go_sem,k15,e6,e7,A6.at,A6.2.1,A7.at,A7.2.1,au hy5,af m5]
   refine⟨k+1,?_,by omega⟩
   rw[hI]
   refine⟨u2,?_,?_,?_,?_,hlt,st.tZ s2⟩<;>simp [kF,k0,k1,k14]
def DX(vs:List Value)(h:H)(K:Value->H->Prop):Prop:= ∃(u:U) (s:List UInt8),vs=[str s]/\s.length<=65536/\Kg u h/\EW u h/\ ∀u' h' v,kG S0 u h u' h'->kM u' h' v (lZ s).1->K (.tuple #[v,.agg (kT (Cj s).1 (Cj s).2).toArray,.bool true]) h'
def RO:mG:=λf vs h K _=>(f=78/\aa9 vs h K)\/(f=79/\aeC vs h K)\/(f=80/\Lt aez vs h K)
theorem IV:nz Tryz.prog RO:=mK KF (mK ab8 (qd UZ))
theorem CK{vs:List Value}{h:H}{K:Value->H->Prop}{KP:List PanicEntry->H->Prop}(hC:DX vs h K):ma Tryz.prog 50 vs h K KP:=by
 obtain⟨u,s,rfl,hs,hL,hT,hK⟩:=hC
 refine kP 140746078355965 [(none,(.t 2)),((some (.c1 (.ldn 3) (.t 3))),(.o1 (.ldn 3) (.t 3))),(none,(.t 4))] IV Tryz.func50 (by kernel_rfl) (by apply c0 rfl;repeat' first|apply cS|apply cK|apply cL|apply cX|(apply cC (by decide))|with_reducible exact cV 9 (.sts [(zk (.ldn 3) (.t 6)),(zk (.ldn 3) (.t 6)),(.chk [] (.cb 3 [])),(.chk [] (.c2 (.eqs true [(.int .i64),(.int .i64),(.int .i64)]) (.o1 (.ldn 3) (.t 6)) (.c (.agg #[(.int .i64 0),(.int .i64 0),(.int .i64 0)])))),(.chk [((.o2 (.eqs true [(.int .i64),(.int .i64),(.int .i64)]) (.o1 (.ldn 3) (.t 6)) (.c (.agg #[(.int .i64 0),(.int .i64 0),(.int .i64 0)]))),true)] (.c1 (.ldn 3) (.t 6))),(.set 59 (.o1 (.ldn 3) (.t 6))),(.set 58 (.o2 (.eqs true [(.int .i64),(.int .i64),(.int .i64)]) (.o1 (.ldn 3) (.t 6)) (.c (.agg #[(.int .i64 0),(.int .i64 0),(.int .i64 0)])))),(.set 54 (.o1 (.ldn 3) (.t 6))),(.eff [((.t 58),true)] (some 62) (.call 80) [(.t 0),(.t 8)] [([((.t 58),true)],((.t 6),(some 3))),([],((.t 6),(some 3)))]),(.chk [((.t 58),true)] (.c2 (.eqs false [(.int .i64),(.int .i64),(.int .i64)]) (.t 59) (.t 62))),(.chk [] (.c3 .pick (.t 58) (.o2 (.eqs false [(.int .i64),(.int .i64),(.int .i64)]) (.t 59) (.t 62)) (.c (.bool false)))),(.set 2 (.t 5)),(.eff [] none (.store 3) [(.t 3),(.t 54)] [([((.t 58),true)],((.t 6),(some 3)))]),(.set 4 (.o3 .pick (.t 58) (.o2 (.eqs false [(.int .i64),(.int .i64),(.int .i64)]) (.t 59) (.t 62)) (.c (.bool false))))]) (by kernel_rfl)|(conv=>lhs;cbv;try simp only[mF])) ?_
 obtain⟨L,c,p,hLe⟩: ∃L c p,mo s 0=(L,c,p):=⟨_,_,_,rfl⟩
 have hsc:lZ s=(L,c,p):=by rw[show lZ s=mo s 0 by unfold lZ mo;rw[ah (by omega)],hLe]
 have hbad:Cj s=(c,(p:Int)):=by unfold Cj;rw[hsc]
 rw[hsc,hbad]at hK
 simp only[kT]at hK
 have hlen:L.length<=65537:=by have:=xk s;rw[hsc]at this;exact this
 obtain⟨h1,u1,hh1,zh1,p1,R1⟩:=sJ u h
 obtain⟨rb,hrb⟩:=kJ h.size
 rw[<-hrb]at R1
 have R11:=R1.1
 simp(disch:=first|omega|simp only[zz];try omega;done) only[↓reduceIte,go_sem,<-hh1,<-hrb]
 refine kD (.inl ⟨rfl,u1,s,rfl,by omega,hL.mono p1.ge,fun(u2:U) (h2:H) v s2 o2=>⟨kY,?_⟩⟩)
 rw[hsc]at o2 ⊢
 obtain⟨va,vc,rfl,-,-⟩:=o2.sl
 have R2:=R1.sZ s2
 have st2:=p1.tZ s2
 obtain⟨h3',h3,u3,hh3',hh3,F3',F3,s3,hz3⟩:=kZ u2 h2 [.int .i64 0,.int .i64 0,.int .i64 0] [.int .i64 c,.int .i64 0,.int .i64 p] 44 rfl
 obtain⟨fb,hfb⟩:=kJ h2.size
 rw[<-hfb]at F3' F3 hh3
 have F3'1:=F3'.1
 have F31:=F3.1
 have R3:=R2.sZ s3
 have st3:=st2.tZ s3
 have i3:=o2.iZ.mono s3.ge
 have hrf:rb≠fb:=by have:=R2.1;omega
 have g3:=(p1.ge.trans s2.ge).trans s3.ge
 simp only[kT]
 simp(disch:=first|omega|simp only[zz];try omega;done) only[↓reduceIte,go_sem,<-hfb,<-hh3',<-hh3,F3'.2.1,F3'.2.2.1,au (show¬(65536:Int)<s.length by omega)]
 refine kD (.inr (.inl ⟨rfl,u3,s,_,L,(c,p),rfl,hs,hLe,i3,hT.mono g3,fun(u4:U) (h4:H) a s4 ha hstk=>⟨kY,?_⟩⟩))
 have F4:=F3.sZ s4
 have R4:=R3.sZ s4
 have st4:=st3.tZ s4
 have i4:=i3.mono s4.ge
 have F41:=F4.1
 have R41:=R4.1
 have hrb':h.size<=rb:=by omega
 have out: ∀(u5:U) (h5:H),kG S0 u4 h4 u5 h5->kV u5 h5 rb [.int .i64 0,.int .i64 0,.int .i64 0]/\kV u5 (kU h5 rb 0 [.int .i64 c,.int .i64 0,.int .i64 p]) fb [.int .i64 c,.int .i64 0,.int .i64 p]/\kV u5 (kU h5 rb 0 [.int .i64 c,.int .i64 0,.int .i64 p]) rb [.int .i64 c,.int .i64 0,.int .i64 p]/\K (.tuple #[.slice va L.length vc,.agg #[.int .i64 c,.int .i64 0,.int .i64 p],.bool true]) (kU h5 rb 0 [.int .i64 c,.int .i64 0,.int .i64 p]):=λu5 h5 s5=>by
  have R5:=R4.sZ s5
  have sR:=kG.sets (S:=λb=>b=rb) u5 h5 (b:=rb) (o:=0) [.int .i64 c,.int .i64 0,.int .i64 p] rfl (by rw[R5.2.2.2.1];exact az _) (by rw[R5.2.1];exact aH _)
  exact⟨R5,(F4.sZ s5).step sR (λq=>hrf q.symm),R5.sets rfl,hK _ _ _ ((st4.tZ s5).own sR λb q=>by rw[q];exact hrb') ((i4.mono s5.ge).mono sR.ge)⟩
 rcases Bg (s:=s) (k:=0) (az _) hLe with⟨hc0,-,-,hk0⟩|⟨rfl,rfl,r,hLr,-⟩
 ·have stk: ∀(q:True),oo s a= .bad c p:=λ_=>hstk hc0
  have Et:L=[]\/ ∃x,L[L.length - 1]? =some x/\x.1≠0:=by
   cases hLL:L with
   |nil=>exact .inl rfl
   |cons y l=>
    right
    obtain⟨x,hx⟩: ∃x,L[L.length - 1]? =some x:=⟨L[L.length - 1]'(by rw[hLL];simp),by rw[aL]⟩
    rw[<-hLL]
    exact⟨x,hx,hk0 x (aI hx)⟩
  rcases Et with hnil|⟨x,hx,hxk⟩
  all_goals
   first
    |(have hl0:L.length=0:=by rw[hnil];rfl
      simp(disch:=first|omega|simp only[zz];try omega;done) only[↓reduceIte,go_sem,au (show¬(0:Int)<L.length by omega),F4.at,F4.2.1,au hc0])
    |(have hLl:0<L.length:=by have:=(aJ.1 hx).1;omega
      have e1:(L.length:Int) - 1=((L.length - 1:Nat):Int):=by omega
      obtain⟨pb,po,rfl,hpb,hpu,hpz,hpr⟩:=i4.row _ _ hx
      rw[mJ]at hpr
      simp only[lK,Bi,El,aG,aP]at hpr hpu hpz
      obtain⟨p0,-⟩:=hpr
      simp(disch:=first|omega|simp only[zz];try omega;done) only[↓reduceIte,go_sem,af (show(0:Int)<L.length by omega),e1,af (show L.length - 1<L.length by omega),p0,au hxk,F4.at,F4.2.1,au hc0])
   refine kD (.inr (.inr ⟨rfl,u4,s,a,c,p,rfl,hs,⟨ha,hstk hc0⟩,fun(u5:U) (h5:H) s5=>⟨by have F5:=F4.sZ s5;have F51:=F5.1;simp(disch:=first|omega|simp only[zz];try omega;done) only[↓reduceIte,go_sem,F4.at,F5.at,F5.2.1],?_⟩⟩))
   obtain⟨R5,wF,w,hK'⟩:=out u5 h5 s5
   have F5:=F4.sZ s5
   have F51:=F5.1
   have wF1:=wF.1
   have w1:=w.1
   have R51:=R5.1
   simp only[kT]
   simp(disch:=first|omega|simp only[zz];try omega;done) only[↓reduceIte,go_sem,F5.at,R5.2.1,R5.2.2.1,w.at,w.2.1,wF.at,wF.2.1]
   exact hK'
 ·obtain⟨-,wF,w,hK'⟩:=out u4 h4 (kG.refl _ _ _)
  simp only[show((0:Nat):Int)=0 from rfl]at wF w hK'
  have wF1:=wF.1
  have w1:=w.1
  have hLl:0<L.length:=by rw[hLr];simp
  have hx:L[L.length - 1]? =some (adI s.length):=by rw[hLr];simp
  obtain⟨pb,po,rfl,hpb,hpu,hpz,hpr⟩:=i4.row _ _ hx
  rw[mJ]at hpr
  simp only[lK,adI,Bi,El,aG,aP]at hpr hpu hpz
  obtain⟨p0,-⟩:=hpr
  have e1:(L.length:Int) - 1=((L.length - 1:Nat):Int):=by omega
  simp(disch:=first|omega|simp only[zz];try omega;done) only[↓reduceIte,go_sem,af (show(0:Int)<L.length by omega),e1,af (show L.length - 1<L.length by omega),p0,F4.at,F4.2.1,R4.2.1,R4.2.2.1,w.at,w.2.1,wF.at,wF.2.1]
  exact hK'
end Go.Proofs.Z
namespace Edict
variable {src:List UInt8}
theorem abZ(h:src.length<=65536):(∀e,nO (λb l=>oJ b [] l) src= .error e->mD 0 (Cj src) 0 0 0 0 (lZ src).1=e/\e.1≠0)/\ ∀a,nO (λb l=>oJ b [] l) src= .ok a->mD 0 (Cj src) 0 0 0 0 (lZ src).1=(0,0)/\a.length<=512/\TokMs (lZ src).1 (ftP a)/\ ∀c∈a,mH c/\ ∀x∈c.2,wB x:=by
 have hg:=wV h
 have hp:=KA hg
 unfold nO
 rw[ah (by omega)]
 refine⟨λe q=>hp.1 e q,λa q=> ?_⟩
 obtain⟨q1,-,q3,-⟩:=hp.2 a q
 obtain⟨-,ys,rfl,q4⟩:=Xd _ _ _ _ (aH _) (by simp) hg q
 have hw: ∀t∈(lZ src).1,SA t:=by
  have e:lZ src=mo src 0:=by unfold lZ mo;rw[ah (by omega)]
  exact CR (s:=src) (k:=0) (f:=(mo src 0).2) (az _) (by rw[e])
 obtain⟨m1,m2⟩:=WZ q4 hw
 exact⟨q1,q3,m1,m2⟩
theorem YT(h:src.length<=65536):(∀e,nO (λb l=>mQ b [] l) src= .error e->mD 15 (Cj src) 15 0 0 0 (lZ src).1=e/\e.1≠0)/\ ∀a,nO (λb l=>mQ b [] l) src= .ok a->mD 15 (Cj src) 15 0 0 0 (lZ src).1=(0,0)/\a.length<=4096/\TokMs (lZ src).1 (ftF a)/\ ∀x∈a,x.2.1.length<=8:=by
 have hg:=wV h
 have hp:=Hq hg
 unfold nO
 rw[ah (by omega)]
 refine⟨λe q=>hp.1 e q,λa q=> ?_⟩
 obtain⟨q1,-,q3,-⟩:=hp.2 a q
 obtain⟨-,ys,rfl,q4⟩:=Sb _ _ _ _ (aH _) (by simp) hg q
 have hw: ∀t∈(lZ src).1,SA t:=by
  have e:lZ src=mo src 0:=by unfold lZ mo;rw[ah (by omega)]
  exact CR (s:=src) (k:=0) (f:=(mo src 0).2) (az _) (by rw[e])
 obtain⟨m1,m2⟩:=Sa q4 hw
 exact⟨q1,q3,m1,m2⟩
theorem IQ(h:src.length<=65536): ∀t∈(lZ src).1,0<=tK t:=by
 have e:lZ src=mo src 0:=by unfold lZ mo;rw[ah (by omega)]
 exact λt ht=>(CR (s:=src) (k:=0) (f:=(mo src 0).2) (az _) (by rw[e]) t ht).2.2.2.2
end Edict
namespace Go.Proofs.Z
open Go Go.Ev Edict
variable {vs:List Value} {h:H} {K:Value->H->Prop} {KP:List PanicEntry->H->Prop}
def ad6{α:Type}(r:Except nI (List α))(e:nI)(a:List α):Prop:=(r= .error e/\a=[])\/(r= .ok a/\e=(0,0))
def EL(vs:List Value)(h:H)(K:Value->H->Prop):Prop:= ∃(u:U) (s:List UInt8),vs=[str s]/\s.length<=65536/\Kg u h/\EW u h/\ ∀e a,ad6 (nO (λb l=>oJ b [] l) s) e a->(e.1≠0\/e=(0,0)/\a.length<=512/\ ∀c∈a,mH c)->
 ∀u' h' w,kG S0 u h u' h'->kM u' h' w a->K (.tuple #[.agg #[w],.agg #[.int .i64 e.1,.int .i64 0,.int .i64 e.2],.bool true]) h'
def WT(vs:List Value)(h:H)(K:Value->H->Prop):Prop:= ∃(u:U) (s:List UInt8),vs=[str s]/\s.length<=65536/\Kg u h/\ ∀e a,ad6 (nO (λb l=>oJ b [] l) s) e a-> ∀u' h' w,kG S0 u h u' h'->kM u' h' w a->K (.tuple #[.agg #[w],.agg #[.int .i64 e.1,.int .i64 0,.int .i64 e.2]]) h'
theorem ab1(hC:WT vs h K):ma Tryz.prog 51 vs h K KP:=by
 obtain⟨u,s,rfl,hs,hL,hK⟩:=hC
 exact MK ⟨u,s,rfl,by omega,hL,λe q u' h' st=>hK e [] (.inl ⟨q,rfl⟩) u' h' _ st (.nil _ _),λa q u' h' w st o=>hK (0,0) a (.inr ⟨q,rfl⟩) u' h' w st o.iZ⟩
def RI(vs:List Value)(h:H)(K:Value->H->Prop):Prop:= ∃(u:U) (s:List UInt8),vs=[str s]/\s.length<=65536/\Kg u h/\ ∀e a,ad6 (nO (λb l=>mQ b [] l) s) e a-> ∀u' h' w,kG S0 u h u' h'->kM u' h' w a->K (.tuple #[w,.agg #[.int .i64 e.1,.int .i64 0,.int .i64 e.2]]) h'
theorem YU(hC:RI vs h K):ma Tryz.prog 55 vs h K KP:=by
 obtain⟨u,s,rfl,hs,hL,hK⟩:=hC
 exact TZ ⟨u,s,rfl,by omega,hL,λe q u' h' st=>hK e [] (.inl ⟨q,rfl⟩) u' h' _ st (.nil _ _),λa q u' h' w st o=>hK (0,0) a (.inr ⟨q,rfl⟩) u' h' w st o.iZ⟩
def JH:mG:=λf vs h K _=>(f=50/\DX vs h K)\/(f=51/\WT vs h K)\/(f=52/\IY vs h K)\/(f=53/\ab3 vs h K)\/(f=54/\DY vs h K)
theorem DW:nz Tryz.prog JH:=mK CK (mK ab1 (mK EO (mK YV (qd CL))))
theorem IR(hC:EL vs h K):ma Tryz.prog 19 vs h K KP:=by
 obtain⟨u,s,rfl,hs,hL,hT,hK⟩:=hC
 refine kP 141734449149 [((some (.c1 (.ldn 1) (.t 2))),(.o1 (.ldn 1) (.t 2))),((some (.c1 (.ldn 3) (.t 3))),(.o1 (.ldn 3) (.t 3))),(none,(.t 4))] DW Tryz.func19 (by kernel_rfl) (by apply c0 rfl;repeat' first|apply cS|apply cK|apply cL|apply cX|(apply cC (by decide))|(conv=>lhs;cbv;try simp only[mF])) ?_
 obtain⟨L,hLe⟩:=kJ ((lZ s).1)
 obtain⟨bad,hbad⟩:=kJ (Cj s)
 have hlen:L.length<=65537:=by rw[hLe];exact xk s
 have hgood:nk L bad:=by rw[hLe,hbad];exact wV hs
 have hkk: ∀t∈L,0<=tK t:=by rw[hLe];exact IQ hs
 obtain⟨pe,po⟩:=abZ hs
 rw[<-hLe,<-hbad]at pe po
 obtain⟨h1,u1,hh1,zh1,p1,P1⟩:=kL u h [.slice none 0 0] 87
 obtain⟨h2,u2,hh2,zh2,p2,R2⟩:=sJ u1 h1
 obtain⟨pb,hpb⟩:=kJ h.size
 obtain⟨rb,hrb⟩:=kJ h1.size
 rw[<-hpb]at P1
 rw[<-hrb]at R2
 have P2:=P1.sZ p2
 have st2:=p1.tZ p2
 simp(disch:=first|omega|simp only[zz];try omega;done) only[↓reduceIte,go_sem]
 rw[<-hh1,<-hh2,<-hpb,show pb+1=rb by omega]
 refine kD (.inl ⟨rfl,u2,s,rfl,hs,hL.mono st2.ge,hT.mono st2.ge,fun(u3:U) (h3:H) v s3 i3=>⟨kY,?_⟩⟩)
 rw[<-hLe]at i3
 rw[<-hbad]
 obtain⟨va,vc,rfl,-,-⟩:=i3.sl
 obtain⟨h4',h4,u4,hh4',hh4,F4',F4,s4,hz4⟩:=kZ u3 h3 [.int .i64 0,.int .i64 0,.int .i64 0] [.int .i64 bad.1,.int .i64 0,.int .i64 bad.2] 44 rfl
 obtain⟨fb,hfb⟩:=kJ h3.size
 rw[<-hfb]at F4' F4 hh4
 have F4'1:=F4'.1
 have F41:=F4.1
 have P4:=(P2.sZ s3).sZ s4
 have R4:=(R2.sZ s3).sZ s4
 have st4:=(st2.tZ s3).tZ s4
 have i4:=i3.mono s4.ge
 simp only[kT]
 simp(disch:=first|omega|simp only[zz];try omega;done) only[↓reduceIte,go_sem,<-hfb,<-hh4',<-hh4,F4'.2.1,F4'.2.2.1]
 have g4:=(st2.ge.trans s3.ge).trans s4.ge
 refine kD (.inr (.inl ⟨rfl,u4,s,rfl,hs,hL.mono g4,λe a hpar u5 h5 w s5 i5=>⟨kY,?_⟩⟩))
 have hres:(mD 0 bad 0 0 0 0 L=e)/\((e.1≠0/\a=[])\/(e=(0,0)/\a.length<=512/\TokMs L (ftP a)/\ ∀c∈a,mH c/\ ∀x∈c.2,wB x)):=by
  rcases hpar with⟨q,rfl⟩|⟨q,rfl⟩
  ·exact⟨(pe e q).1,.inl ⟨(pe e q).2,rfl⟩⟩
  ·obtain⟨q1,q2,q3,q4⟩:=po a q;exact⟨q1,.inr ⟨rfl,q2,q3,q4⟩⟩
 obtain⟨hchk,hres⟩:=hres
 obtain⟨wa,wc,rfl,-,-⟩:=i5.sl
 obtain⟨e1,e2⟩:=e
 simp only at hchk hres
 -- two blocks
 obtain⟨hA,uA,hhA,zA,pA,PA⟩:=kL u5 h5 [.slice wa a.length wc] 87
 obtain⟨hD,uD,hhD,zD,pD,ED⟩:=kL uA hA [.int .i64 e1,.int .i64 0,.int .i64 e2] 44
 obtain⟨qb,hqb⟩:=kJ h5.size
 obtain⟨eb,heb⟩:=kJ hA.size
 rw[<-hqb]at PA
 rw[<-heb]at ED
 have PD:=PA.sZ pD
 have FD:=((F4.sZ s5).sZ pA).sZ pD
 have RD:=((R4.sZ s5).sZ pA).sZ pD
 have QD:=((P4.sZ s5).sZ pA).sZ pD
 have st5:=st4.tZ s5
 have stD:=(st5.tZ pA).tZ pD
 have iD:=(i4.mono s5.ge).mono (pA.ge.trans pD.ge)
 have jD:=i5.mono (pA.ge.trans pD.ge)
 have PD1:=PD.1
 have ED1:=ED.1
 have FD1:=FD.1
 have zs5:=st5.ge.sz
 simp(disch:=first|omega|simp only[zz];try omega;done) only[↓reduceIte,go_sem,<-hhA,<-hhD,<-hqb,show qb+1=eb by omega,FD.at,FD.2.1]
 refine kD (.inr (.inr (.inl ⟨rfl,uD,0,_,L,bad,rfl,.inl rfl,iD,hlen,hkk,hgood,fun(uE:U) (hE:H) sE=>⟨kY,?_⟩⟩)))
 rw[hchk]
 obtain⟨hF,uF,hhF,zF,pF,GF⟩:=kL uE hE [.int .i64 e1,.int .i64 0,.int .i64 e2] 44
 have PF:=(PD.sZ sE).sZ pF
 have EF:=(ED.sZ sE).sZ pF
 have RF:=(RD.sZ sE).sZ pF
 have QF:=(QD.sZ sE).sZ pF
 have stF:=(stD.tZ sE).tZ pF
 have iF:=(iD.mono sE.ge).mono pF.ge
 have jF:=(jD.mono sE.ge).mono pF.ge
 have GF1:=GF.1
 have PF1:=PF.1
 have EF1:=EF.1
 have RF1:=RF.1
 have QF1:=QF.1
 simp only[kT]
 have hhb:h.size<=pb/\h.size<=rb/\pb≠rb:=by omega
 have hne:pb≠qb/\pb≠eb/\rb≠qb/\rb≠eb:=by have:=QD.1;have:=RD.1;have:=(P4.sZ s5).1;have:=(R4.sZ s5).1;omega
 -- the results are laid
 have out: ∀(uX:U) (hX:H),kG S0 uF hF uX hX->kV uX hX pb [.slice none 0 0]/\kV uX hX rb [.int .i64 0,.int .i64 0,.int .i64 0]/\ ∀(hG hH:H),hG=lh hX pb 0 (.slice wa a.length wc)->hH=kU hG rb 0 [.int .i64 e1,.int .i64 0,.int .i64 e2]->
   kV uX hG qb [.slice wa a.length wc]/\kV uX hG eb [.int .i64 e1,.int .i64 0,.int .i64 e2]/\kV uX hG rb [.int .i64 0,.int .i64 0,.int .i64 0]/\kV uX hH qb [.slice wa a.length wc]/\kV uX hH pb [.slice wa a.length wc]/\kV uX hH rb [.int .i64 e1,.int .i64 0,.int .i64 e2]/\K (.tuple #[.agg #[.slice wa a.length wc],.agg #[.int .i64 e1,.int .i64 0,.int .i64 e2],.bool true]) hH:=λuX hX sX=>by
  have QX:=QF.sZ sX
  have RX:=RF.sZ sX
  refine⟨QX,RX,λhG hH q1 q2=> ?_⟩
  have sG:=kG.set (S:=λb=>b=pb) uX hX (b:=pb) (o:=0) (.slice wa a.length wc) rfl (by rw[QX.2.2.2.1];exact az _)
  have QG:kV uX (lh hX pb 0 (.slice wa a.length wc)) pb [.slice wa a.length wc]:=QX.set (i:=0) (v:= .slice wa a.length wc) (by simp)
  have RG:=RX.step sG (λq=>hhb.2.2 q.symm)
  rw[<-q1]at sG QG RG
  have sH:=kG.sets (S:=λb=>b=rb) uX hG (b:=rb) (o:=0) [.int .i64 e1,.int .i64 0,.int .i64 e2] rfl (by rw[RG.2.2.2.1];exact az _) (by rw[RG.2.1];exact aH _)
  have RH:=RG.sets (l:=[.int .i64 e1,.int .i64 0,.int .i64 e2]) rfl
  rw[<-q2]at sH RH
  have PG:=(PF.sZ sX).step sG (λq=>hne.1 q.symm)
  have EG:=(EF.sZ sX).step sG (λq=>hne.2.1 q.symm)
  have stH:=((stF.tZ sX).own sG λb q=>by rw[q];exact hhb.1).own sH λb q=>by rw[q];exact hhb.2.1
  refine⟨PG,EG,RG,PG.step sH (λq=>hne.2.2.1 q.symm),QG.step sH hhb.2.2,RH,?_⟩
  exact hK (e1,e2) a hpar (by rcases hres with⟨q,-⟩|⟨q,q1,q2,q3⟩;exact .inl q;exact .inr ⟨q,q1,λc hc=>(q3 c hc).1⟩) _ _ _ stH (((jF.mono sX.ge).mono sG.ge).mono sH.ge)
 rcases hres with⟨h0,rfl⟩|⟨h0,h512,hms,hfine⟩
 ·obtain⟨o1,o2,o3⟩:=out uF hF (kG.refl _ _ _)
  obtain⟨x1,x2,x3,x4,x5,x6,hK'⟩:=o3 _ _ rfl rfl
  have x11:=x1.1
  have x21:=x2.1
  have x31:=x3.1
  have x41:=x4.1
  have x51:=x5.1
  have x61:=x6.1
  simp only[bg]at x1 x2 x3 x4 x5 x6 hK' PF
  simp(disch:=first|omega|simp only[zz];try omega;done) only[↓reduceIte,go_sem,<-hhF,GF.at,GF.2.1,EF.at,EF.2.1,au h0,PF.at,PF.2.1,QF.2.1,QF.2.2.1,x1.at,x1.2.1,x2.at,x2.2.1,x3.2.1,x3.2.2.1,x4.at,x4.2.1,x5.at,x5.2.1,x6.at,x6.2.1]
  exact hK'
 ·obtain⟨q1,q2⟩:e1=0/\e2=0:=by simpa using h0
  simp(disch:=first|omega|simp only[zz];try omega;done) only[↓reduceIte,go_sem,<-hhF,GF.at,GF.2.1,EF.at,EF.2.1,af q1,PF.at,PF.2.1]
  refine kD (.inr (.inr (.inr (.inl ⟨rfl,uF,a,_,rfl,jF,h512,hfine,fun(uX:U) (hX:H) w sX ow=>⟨kY,?_⟩⟩))))
  obtain⟨oa,oc,rfl,-,-⟩:=ow.sl
  have PX:=PF.sZ sX
  have EX:=EF.sZ sX
  have PX1:=PX.1
  have EX1:=EX.1
  simp(disch:=first|omega|simp only[zz];try omega;done) only[↓reduceIte,go_sem,PX.at,PX.2.1,EX.at,EX.2.1]
  refine kD (.inr (.inr (.inr (.inr ⟨rfl,uX,_,_,L,ftP a,rfl,iF.mono sX.ge,ow.iZ,hms,hlen,fun(uY:U) (hY:H) sY=>⟨by have PY:=PX.sZ sY;have EY:=EX.sZ sY;have PY1:=PY.1;have EY1:=EY.1;simp(disch:=first|omega|simp only[zz];try omega;done) only[↓reduceIte,go_sem,PX.at,EX.at,PY.at,PY.2.1,EY.at,EY.2.1],?_⟩⟩))))
  obtain⟨o1,o2,o3⟩:=out uY hY (sX.tZ sY)
  obtain⟨x1,x2,x3,x4,x5,x6,hK'⟩:=o3 _ _ rfl rfl
  have x11:=x1.1
  have x21:=x2.1
  have x31:=x3.1
  have x41:=x4.1
  have x51:=x5.1
  have x61:=x6.1
  have o11:=o1.1
  have EY:=EX.sZ sY
  have EY1:=EY.1
  simp(disch:=first|omega|simp only[zz];try omega;done) only[↓reduceIte,go_sem,o1.2.1,o1.2.2.1,EY.at,x2.at,x2.2.1,x3.2.1,x3.2.2.1,x5.at,x5.2.1,x6.at,x6.2.1]
  exact hK'
def Ls(vs:List Value)(h:H)(K:Value->H->Prop):Prop:= ∃(u:U) (s:List UInt8),vs=[str s]/\s.length<=65536/\Kg u h/\EW u h/\ ∀e a,ad6 (nO (λb l=>mQ b [] l) s) e a->(e.1≠0\/e=(0,0)/\a.length<=4096/\ ∀x∈a,x.2.1.length<=8)->
 ∀u' h' w,kG S0 u h u' h'->kM u' h' w a->K (.tuple #[w,.agg #[.int .i64 e.1,.int .i64 0,.int .i64 e.2],.bool true]) h'
def RN:mG:=λf vs h K _=>(f=50/\DX vs h K)\/(f=55/\RI vs h K)\/(f=52/\IY vs h K)\/(f=56/\EN vs h K)\/(f=54/\DY vs h K)
theorem IU:nz Tryz.prog RN:=mK CK (mK YU (mK EO (mK IW (qd CL))))
theorem NR(hC:Ls vs h K):ma Tryz.prog 20 vs h K KP:=by
 obtain⟨u,s,rfl,hs,hL,hT,hK⟩:=hC
 refine kP 8858502141 [(none,(.t 2)),((some (.c1 (.ldn 3) (.t 3))),(.o1 (.ldn 3) (.t 3))),(none,(.t 4))] IU Tryz.func20 (by kernel_rfl) (by apply c0 rfl;repeat' first|apply cS|apply cK|apply cL|apply cX|(apply cC (by decide))|(conv=>lhs;cbv;try simp only[mF])) ?_
 obtain⟨L,hLe⟩:=kJ ((lZ s).1)
 obtain⟨bad,hbad⟩:=kJ (Cj s)
 have hlen:L.length<=65537:=by rw[hLe];exact xk s
 have hgood:nk L bad:=by rw[hLe,hbad];exact wV hs
 have hkk: ∀t∈L,0<=tK t:=by rw[hLe];exact IQ hs
 obtain⟨pe,po⟩:=YT hs
 rw[<-hLe,<-hbad]at pe po
 obtain⟨h2,u2,hh2,zh2,p2,R2⟩:=sJ u h
 obtain⟨rb,hrb⟩:=kJ h.size
 rw[<-hrb]at R2
 simp(disch:=first|omega|simp only[zz];try omega;done) only[↓reduceIte,go_sem]
 rw[<-hh2,<-hrb]
 refine kD (.inl ⟨rfl,u2,s,rfl,hs,hL.mono p2.ge,hT.mono p2.ge,fun(u3:U) (h3:H) v s3 i3=>⟨kY,?_⟩⟩)
 rw[<-hLe]at i3
 rw[<-hbad]
 obtain⟨va,vc,rfl,-,-⟩:=i3.sl
 obtain⟨h4',h4,u4,hh4',hh4,F4',F4,s4,hz4⟩:=kZ u3 h3 [.int .i64 0,.int .i64 0,.int .i64 0] [.int .i64 bad.1,.int .i64 0,.int .i64 bad.2] 44 rfl
 obtain⟨fb,hfb⟩:=kJ h3.size
 rw[<-hfb]at F4' F4 hh4
 have F4'1:=F4'.1
 have F41:=F4.1
 have R4:=(R2.sZ s3).sZ s4
 have st4:=(p2.tZ s3).tZ s4
 have i4:=i3.mono s4.ge
 simp only[kT]
 simp(disch:=first|omega|simp only[zz];try omega;done) only[↓reduceIte,go_sem,<-hfb,<-hh4',<-hh4,F4'.2.1,F4'.2.2.1]
 have g4:=(p2.ge.trans s3.ge).trans s4.ge
 refine kD (.inr (.inl ⟨rfl,u4,s,rfl,hs,hL.mono g4,λe a hpar u5 h5 w s5 i5=>⟨kY,?_⟩⟩))
 have hres:(mD 15 bad 15 0 0 0 L=e)/\((e.1≠0/\a=[])\/(e=(0,0)/\a.length<=4096/\TokMs L (ftF a)/\ ∀x∈a,x.2.1.length<=8)):=by
  rcases hpar with⟨q,rfl⟩|⟨q,rfl⟩
  ·exact⟨(pe e q).1,.inl ⟨(pe e q).2,rfl⟩⟩
  ·obtain⟨q1,q2,q3,q4⟩:=po a q;exact⟨q1,.inr ⟨rfl,q2,q3,q4⟩⟩
 obtain⟨hchk,hres⟩:=hres
 obtain⟨wa,wc,rfl,-,-⟩:=i5.sl
 obtain⟨e1,e2⟩:=e
 simp only at hchk hres
 obtain⟨hD,uD,hhD,zD,pD,ED⟩:=kL u5 h5 [.int .i64 e1,.int .i64 0,.int .i64 e2] 44
 obtain⟨eb,heb⟩:=kJ h5.size
 rw[<-heb]at ED
 have FD:=(F4.sZ s5).sZ pD
 have RD:=(R4.sZ s5).sZ pD
 have st5:=st4.tZ s5
 have stD:=st5.tZ pD
 have iD:=(i4.mono s5.ge).mono pD.ge
 have jD:=i5.mono pD.ge
 have ED1:=ED.1
 have FD1:=FD.1
 have zs5:=st5.ge.sz
 simp(disch:=first|omega|simp only[zz];try omega;done) only[↓reduceIte,go_sem,<-hhD,<-heb,FD.at,FD.2.1,ED.at,ED.2.1]
 refine kD (.inr (.inr (.inl ⟨rfl,uD,15,_,L,bad,rfl,.inr rfl,iD,hlen,hkk,hgood,fun(uF:U) (hF:H) sE=>⟨by have EF:=ED.sZ sE;have EF1:=EF.1;simp(disch:=first|omega|simp only[zz];try omega;done) only[↓reduceIte,go_sem,ED.at,EF.at,EF.2.1],?_⟩⟩)))
 rw[hchk]
 have EF:=ED.sZ sE
 have RF:=RD.sZ sE
 have stF:=stD.tZ sE
 have iF:=iD.mono sE.ge
 have jF:=jD.mono sE.ge
 have EF1:=EF.1
 have RF1:=RF.1
 simp only[kT]
 have hhb:h.size<=rb:=by omega
 have hne:rb≠eb:=by have:=(R4.sZ s5).1;omega
 have out: ∀(uX:U) (hX:H),kG S0 uF hF uX hX->kV uX hX rb [.int .i64 0,.int .i64 0,.int .i64 0]/\kV uX hX eb [.int .i64 e1,.int .i64 0,.int .i64 e2]/\ ∀(hH:H),hH=kU hX rb 0 [.int .i64 e1,.int .i64 0,.int .i64 e2]->
   kV uX hH rb [.int .i64 e1,.int .i64 0,.int .i64 e2]/\K (.tuple #[.slice wa a.length wc,.agg #[.int .i64 e1,.int .i64 0,.int .i64 e2],.bool true]) hH:=λuX hX sX=>by
  have RX:=RF.sZ sX
  refine⟨RX,EF.sZ sX,λhH q2=> ?_⟩
  have sH:=kG.sets (S:=λb=>b=rb) uX hX (b:=rb) (o:=0) [.int .i64 e1,.int .i64 0,.int .i64 e2] rfl (by rw[RX.2.2.2.1];exact az _) (by rw[RX.2.1];exact aH _)
  have RH:=RX.sets (l:=[.int .i64 e1,.int .i64 0,.int .i64 e2]) rfl
  rw[<-q2]at sH RH
  have stH:=(stF.tZ sX).own sH λb q=>by rw[q];exact hhb
  exact⟨RH,hK (e1,e2) a hpar (by rcases hres with⟨q,-⟩|⟨q,q1,q2,q3⟩;exact .inl q;exact .inr ⟨q,q1,q3⟩) _ _ _ stH ((jF.mono sX.ge).mono sH.ge)⟩
 rcases hres with⟨h0,rfl⟩|⟨h0,h512,hms,h8⟩
 ·obtain⟨o1,-,o3⟩:=out uF hF (kG.refl _ _ _)
  obtain⟨x6,hK'⟩:=o3 _ rfl
  have x61:=x6.1
  simp only[bg]at hK'
  simp(disch:=first|omega|simp only[zz];try omega;done) only[↓reduceIte,go_sem,EF.at,EF.2.1,au h0,x6.at,x6.2.1,RF.2.1,RF.2.2.1]
  exact hK'
 ·obtain⟨q1,q2⟩:e1=0/\e2=0:=by simpa using h0
  simp(disch:=first|omega|simp only[zz];try omega;done) only[↓reduceIte,go_sem,EF.at,EF.2.1,af q1]
  refine kD (.inr (.inr (.inr (.inl ⟨rfl,uF,a,_,rfl,jF,h512,h8,fun(uX:U) (hX:H) w sX ow=>⟨by have EX:=EF.sZ sX;have EX1:=EX.1;simp(disch:=first|omega|simp only[zz];try omega;done) only[↓reduceIte,go_sem,EF.at,EX.at,EX.2.1],?_⟩⟩))))
  obtain⟨oa,oc,rfl,-,-⟩:=ow.sl
  have EX:=EF.sZ sX
  have EX1:=EX.1
  simp(disch:=first|omega|simp only[zz];try omega;done) only[↓reduceIte,go_sem]
  refine kD (.inr (.inr (.inr (.inr ⟨rfl,uX,_,_,L,ftF a,rfl,iF.mono sX.ge,ow.iZ,hms,hlen,fun(uY:U) (hY:H) sY=>⟨by have EY:=EX.sZ sY;have EY1:=EY.1;simp(disch:=first|omega|simp only[zz];try omega;done) only[↓reduceIte,go_sem,EX.at,EY.at,EY.2.1],?_⟩⟩))))
  obtain⟨o1,EY,o3⟩:=out uY hY (sX.tZ sY)
  obtain⟨x6,hK'⟩:=o3 _ rfl
  have x61:=x6.1
  have o11:=o1.1
  have EY1:=EY.1
  simp(disch:=first|omega|simp only[zz];try omega;done) only[↓reduceIte,go_sem,o1.2.1,o1.2.2.1,x6.at,x6.2.1]
  exact hK'
end Go.Proofs.Z
namespace Edict
theorem YS{l:List Nm}{x:Nm}{k:Nat}(h:l[k]? =some x)(hb: ∀j,j<k->l[j]? ≠some x):rU l x=k:=by
 obtain⟨i,q1,q2,q3⟩:=oN (aI h)
 have:i<=k:=by
  apply bR;intro q
  have e:(i:Nat)=l.findIdx λy=>decide (y=x):=by
   have:=q1
   unfold rU at this
   rw[ay (aI h)]at this
   omega
  have:=gm (p:=λy:Nm=>decide (y=x)) (xs:=l) (i:=k) (by omega)
  obtain⟨hk,hx⟩:=aJ.1 h
  rw[hx]at this
  simp at this
 have:k<=i:=by
  apply bR;intro q
  exact hb i (by omega) q3
 rw[q1];omega
theorem NP{α:Type}{l:List α}{x:α}(h: ∀j,j<l.length->l[j]? ≠some x):x ∉ l:=λq=>by
 obtain⟨j,hj⟩:=dW q
 exact h j (aJ.1 hj).1 hj
end Edict
namespace Go.Ev
open Go Rep
theorem nu{u:U}{h:H}{x:List UInt8}{cs:List Value}:rep u h x cs=(cs=[str x]):=qK
theorem FQ:sz (List UInt8)=1:=rfl
end Go.Ev
namespace Go.Proofs.Z
open Go Go.Ev Edict
variable {vs:List Value} {h:H} {K:Value->H->Prop} {KP:List PanicEntry->H->Prop}
def rz(vs:List Value)(h:H)(K:Value->H->Prop):Prop:= ∃(u:U) (v:Value) (l:List Nm) (x:Nm),vs=[v,str x]/\kM u h v l/\l.length<=9000000000000000000/\K (.int .i64 (rU l x)) h
theorem oM(hC:rz vs h K):ma Tryz.prog 40 vs h K KP:=by
 obtain⟨u,v,l,x,rfl,iv,hl,hK⟩:=hC
 refine kP 66483 [(none,(.t 4))] (G:=(λ_ _ _ _ _=>False)) (λ_ _ _ _ _ h=>h.elim) Tryz.func40 (by kernel_rfl) (by conv=>lhs;cbv;try simp only[mF]) ?_
 obtain⟨va,vc,rfl,-,-⟩:=iv.sl
 simp(disch:=first|omega|simp only[zz];try omega;done) only[↓reduceIte,go_sem]
 obtain⟨I,hI⟩:=kJ (α:=Nat->lm->H->Prop) λk σ h'=>σ 0= .slice va l.length vc/\σ 1=str x/\σ 7= .int .i64 (l.length:Nat)/\σ 8= .int .i64 k/\h'=h/\k<=l.length/\ ∀j,j<k->l[j]? ≠some x
 refine kH I (λj=>l.length - j) 0 (by rw[hI];exact⟨by simp [kF],by simp [kF],by simp [kF],by simp [kF],rfl,by omega,λj q=>by omega⟩) ?_
 intro k σ h' hi
 rw[hI]at hi
 obtain⟨e0,e1,e7,e8,rfl,hk,hb⟩:=hi
 by_cases hlt:k<l.length
 case neg=>
  rw[uW (NP λj q=>hb j (by omega))]at hK
  simp(disch:=first|omega|simp only[zz];try omega;done) only[↓reduceIte,go_sem,e7,e8,au (show¬(k:Int)<(l.length:Nat) by omega)]
  exact hK
 obtain⟨y,hy⟩:=uu hlt
 obtain⟨pb,po,rfl,hpb,hpu,hpz,hpr⟩:=iv.row k y hy
 rw[nu]at hpr
 simp only[FQ,oV,aG,aP]at hpr hpu hpz
 by_cases hxy:y=x
 ·subst hxy
  rw[YS hy hb]at hK
  simp(disch:=first|omega|simp only[zz];try omega;done) only[↓reduceIte,go_sem,e0,e1,e7,e8,af (show(k:Int)<(l.length:Nat) by omega),hpr]
  exact hK
 ·simp(disch:=first|omega|simp only[zz];try omega;done) only[↓reduceIte,go_sem,e0,e1,e7,e8,af (show(k:Int)<(l.length:Nat) by omega),hpr,au hxy]
  exact⟨k+1,by rw[hI];exact⟨by simp [kF,e0],by simp [kF,e1],by simp [kF,e7],by simp [kF],rfl,hlt,λj q=>by
   by_cases hj:j=k
   ·rw[hj,hy];exact λe=>hxy (bu e)
   ·exact hb j (by omega)⟩,by omega⟩
def Lr(vs:List Value)(h:H)(K:Value->H->Prop):Prop:= ∃(u:U) (c:kX) (v w:Value),vs=[.agg #[str c.1.1,v,.int .i64 c.1.2.2,w]]/\kM u h v c.1.2.1/\kM u h w c.2/\c.2.length<=16/\ ∀u' h' w,kG S0 u h u' h'->(∃l:List lH,kM u' h' w l/\l.length<=17)->K w h'
theorem NQ(hC:Lr vs h K):ma Tryz.prog 57 vs h K KP:=by
 obtain⟨u,c,v,w,rfl,iv,iw,h16,hK⟩:=hC
 refine kP 277551 [(none,(.t 2))] (G:=(λ_ _ _ _ _=>False)) (λ_ _ _ _ _ h=>h.elim) Tryz.func57 (by kernel_rfl) (by conv=>lhs;cbv;try simp only[mF]) ?_
 obtain⟨va,vc,rfl,-,-⟩:=iv.sl
 obtain⟨wa,wc,rfl,-,-⟩:=iw.sl
 obtain⟨h1,u1,hh1,zh1,p1,A1⟩:=kL u h [str c.1.1,.slice va c.1.2.1.length vc,.int .i64 c.1.2.2,.slice wa c.2.length wc] 147
 obtain⟨b1,hb1⟩:=kJ h.size
 rw[<-hb1]at A1
 have A11:=A1.1
 have i1:=iv.mono p1.ge
 have o2:=mr.made (k:=h.size) u1 h1 (by omega) 52 [c.1] [str c.1.1,.slice va c.1.2.1.length vc,.int .i64 c.1.2.2] rfl (by simp only[bz];decide) (λi y hy=>by
  match i,hy with
  |0,hy=>cases hy;rw[oK];exact⟨_,rfl,i1⟩
  |i+1,hy=>simp at hy)
 have p2:=kG.push S0 u1 h1 #[str c.1.1,.slice va c.1.2.1.length vc,.int .i64 c.1.2.2] 52 (1*Rep.sz lH)
 obtain⟨h2,hh2⟩:=kJ (h1.push (.cells #[str c.1.1,.slice va c.1.2.1.length vc,.int .i64 c.1.2.2] 52))
 obtain⟨u2,hu2⟩:=kJ (ub u1 h1.size (1*Rep.sz lH))
 rw[<-hh2,<-hu2]at p2
 have o2:mr h.size u2 h2 (.slice (some ⟨h1.size,0,none⟩) 1 1) [c.1]:=by rw[hh2,hu2];exact o2
 have zh2:h2.size=h1.size+1:=by rw[hh2];simp
 have A2:=A1.sZ p2
 have A21:=A2.1
 simp(disch:=first|omega|simp only[zz];try omega;done) only[↓reduceIte,go_sem,<-hh1,<-hb1,A1.at,A1.2.1,<-hh2,A2.at,A2.2.1]
 have st2:=p1.tZ p2
 obtain⟨I,hI⟩:=kJ (α:=Nat->lm->H->Prop) λk σ h'=> ∃(u':U) (x:Value) (l:List lH),σ 3=x/\σ 10= .slice wa c.2.length wc/\σ 11= .int .i64 (c.2.length:Nat)/\σ 12= .int .i64 k/\k<=c.2.length/\kG S0 u h u' h'/\mr h.size u' h' x l/\l.length<=k+1
 refine kH I (λj=>c.2.length - j) 0 (by rw[hI];exact⟨u2,_,[c.1],by simp [kF],by simp [kF],by simp [kF],by simp [kF],by omega,st2,o2,by simp⟩) ?_
 intro k σ h' hi
 rw[hI]at hi
 obtain⟨u',x,l,e3,e10,e11,e12,hk,st,ow,hll⟩:=hi
 obtain⟨xa,xc,rfl,-,-⟩:=ow.sl
 by_cases hlt:k<c.2.length
 case neg=>
  simp(disch:=first|omega|simp only[zz];try omega;done) only[↓reduceIte,go_sem,e3,e11,e12,au (show¬(k:Int)<(c.2.length:Nat) by omega)]
  exact hK _ _ _ st ⟨l,ow.iZ,by omega⟩
 obtain⟨y,hy⟩: ∃y,c.2[k]? =some y:=⟨c.2[k],by simp [hlt]⟩
 obtain⟨pb,po,rfl,hpb,hpu,hpz,hpr⟩:=(iw.mono st.ge).row k y hy
 rw[tQ]at hpr
 obtain⟨yv,hpr,iyv⟩:=hpr
 obtain⟨ya,yc,rfl,-,-⟩:=iyv.sl
 simp only[nL,yS,xF,aG,aP]at hpr hpu hpz
 obtain⟨p0,p1',p2',p3,p4,p5,p6,p7,p8,p9,p10,p11,p12,p13⟩:=hpr
 obtain⟨h5',h6,u6,hh5,hh6,B5,B6,s6,hz6⟩:=kZ u' h' [.int .i64 0,str [],.slice none 0 0,.int .i64 0,.int .i64 0,.int .i64 0,.int .i64 0,str [],.int .i64 0,.int .i64 0,.int .i64 0,str [],.int .i64 0,.int .i64 0] (nL y (.slice ya y.2.1.2.1.length yc)) 100 rfl
 simp only[nL]at hh6 B6
 have st6:=st.tZ s6
 have o6:=ow.sZ s6
 have iy6:=iyv.mono s6.ge
 have B51:=B5.1
 have B61:=B6.1
 have z6:=st6.ge.sz
 rcases dG (y.1=3)with h3|h3
 ·simp(disch:=first|omega|simp only[zz];try omega;done) only[↓reduceIte,go_sem,e10,e11,e12,af (show(k:Int)<(c.2.length:Nat) by omega),p0,p1',p2',p3,p4,p5,p6,p7,p8,p9,p10,p11,p12,p13,<-hh5,<-hh6,B5.2.1,B5.2.2.1,B6.at,B6.2.1,af h3]
  exact⟨k+1,by rw[hI];exact⟨u6,_,l,by simp [kF,e3],by simp [kF,e10],by simp [kF,e11],by simp [kF],hlt,st6,o6,by omega⟩,by omega⟩
 ·simp(disch:=first|omega|simp only[zz];try omega;done) only[↓reduceIte,go_sem,e3,e10,e11,e12,af (show(k:Int)<(c.2.length:Nat) by omega),p0,p1',p2',p3,p4,p5,p6,p7,p8,p9,p10,p11,p12,p13,<-hh5,<-hh6,B5.2.1,B5.2.2.1,B6.at,B6.2.1,au h3]
  refine kK (by simp only[]) o6 (x:=y.2.1) (by rw[oK];exact⟨_,rfl,iy6⟩) rfl rfl z6 (by omega) λaA nA cA uA hA oA sA hOA=>⟨kY,?_⟩
  simp(disch:=first|omega|simp only[zz];try omega;done) only[↓reduceIte,go_sem,e12]
  exact⟨k+1,by rw[hI];exact⟨uA,.slice aA nA cA,_,by simp [kF],by simp [kF,e10],by simp [kF,e11],by simp [kF],hlt,st6.own sA λb q=>o6.ge q,oA,by simp;omega⟩,by omega⟩
end Go.Proofs.Z
namespace Go.Proofs.Z
open Go Go.Ev Edict
variable {vn va:Value} {kb:Nat} {h:H} {ar:List Int} {k0:Nat} {u:U}
structure Kn (k0:Nat) (u:U) (h:H) (kb:Nat) (vn va:Value) (names:List Nm) (ar:List Int):Prop where
 B:kV u h kb [vn,va]
 kb0:k0<=kb
 on:mr k0 u h vn names
 oa:mr k0 u h va ar
 eq:names.length=ar.length
 le:names.length<=128
 n1: ¬kN vn kb
 n2: ¬kN va kb
 n3: ∀b,kN vn b-> ¬kN va b
def Sz(kb:Nat)(vn va:Value)(b:Nat):Prop:=b=kb\/kN vn b\/kN va b
theorem Kn.sZ{u':U}{h':H}{names:List Nm}(k:Kn k0 u h kb vn va names ar)(s:kG S0 u h u' h'):Kn k0 u' h' kb vn va names ar:=
 ⟨k.B.sZ s,k.kb0,k.on.sZ s,k.oa.sZ s,k.eq,k.le,k.n1,k.n2,k.n3⟩
theorem Kn.ge{names:List Nm}(k:Kn k0 u h kb vn va names ar){b:Nat}(q:Sz kb vn va b):k0<=b/\b<h.size:=by
 rcases q with rfl|q|q
 ·exact⟨k.kb0,k.B.1⟩
 ·exact⟨k.on.ge q,k.on.lt q⟩
 ·exact⟨k.oa.ge q,k.oa.lt q⟩
def abX(vs:List Value)(h:H)(K:Value->H->Prop):Prop:= ∃(u:U) (k0 kb:Nat) (vn va w:Value) (names:List Nm) (ar:List Int) (a:lH) (t:Int),vs=[.pointer (some ⟨kb,0,none⟩),.agg #[str a.1,w,.int .i64 a.2.2],.int .i64 t]/\Kn k0 u h kb vn va names ar/\kM u h w a.2.1/\
 ∀c t o u' h' vn' va' names' ar',kG (Sz kb vn va) u h u' h'->Kn k0 u' h' kb vn' va' names' ar'->(∀b,Sz kb vn' va' b->Sz kb vn va b\/h.size<=b)->K (.agg #[.int .i64 c,.int .i64 t,.int .i64 o]) h'
def abY:mG:=λf vs h K _=>f=40/\rz vs h K
theorem RA:nz Tryz.prog abY:=qd oM
theorem YR{vs:List Value}{K:Value->H->Prop}{KP:List PanicEntry->H->Prop}(hC:abX vs h K):ma Tryz.prog 58 vs h K KP:=by
 obtain⟨u,k0,kb,vn,va,w,names,ar,a,t,rfl,kn,iw,hK⟩:=hC
 refine kP 1125934266613975 [((some (.c1 (.ldn 3) (.t 6))),(.o1 (.ldn 3) (.t 6)))] RA Tryz.func58 (by kernel_rfl) (by apply c0 rfl;repeat' first|apply cS|apply cK|apply cL|apply cX|(apply cC (by decide))|with_reducible exact cV 2 (.sts [(zq .geq (.t 7) (zv 0)),(.chk [((zb .geq (.t 7) (zv 0)),true)] (.c1 .nilck (.t 0))),(.chk [((zb .geq (.t 7) (zv 0)),true)] (.c1 (.fld 1) (.t 0))),(.chk [((zb .geq (.t 7) (zv 0)),true)] (.c1 .ld1 (zf 1 (.t 0)))),(.chk [((zb .geq (.t 7) (zv 0)),true)] (.c2 (.idxA 1) (zl (zf 1 (.t 0))) (.t 7))),(.chk [((zb .geq (.t 7) (zv 0)),true)] (.c1 .ld1 (zi 1 (zl (zf 1 (.t 0))) (.t 7)))),(.chk [((zb .geq (.t 7) (zv 0)),true)] (.c1 (.fld 1) (.t 4))),(.chk [((zb .geq (.t 7) (zv 0)),true)] (.c1 .ld1 (zf 1 (.t 4)))),(.chk [((zb .geq (.t 7) (zv 0)),true)] (.c1 .len (zl (zf 1 (.t 4))))),(.chk [((zb .geq (.t 7) (zv 0)),true)] (.c2 (.bin .neq) (zl (zi 1 (zl (zf 1 (.t 0))) (.t 7))) (.o1 .len (zl (zf 1 (.t 4)))))),(.chk [] (.c3 .pick (zb .geq (.t 7) (zv 0)) (zb .neq (zl (zi 1 (zl (zf 1 (.t 0))) (.t 7))) (.o1 .len (zl (zf 1 (.t 4))))) (.c (.bool false)))),(.set 15 (.o3 .pick (zb .geq (.t 7) (zv 0)) (zb .neq (zl (zi 1 (zl (zf 1 (.t 0))) (.t 7))) (.o1 .len (zl (zf 1 (.t 4))))) (.c (.bool false))))]) (by kernel_rfl)|(conv=>lhs;cbv;try simp only[mF])) ?_
 obtain⟨wa,wc,rfl,-,-⟩:=iw.sl
 obtain⟨na,nc,rfl,-,-⟩:=kn.on.sl
 obtain⟨aa,ac,rfl,-,-⟩:=kn.oa.sl
 obtain⟨h1,u1,hh1,zh1,p1,A1⟩:=kL u h [str a.1,.slice wa a.2.1.length wc,.int .i64 a.2.2] 52
 obtain⟨h2,u2,hh2,zh2,p2,R2⟩:=sJ u1 h1
 obtain⟨ab,hab⟩:=kJ h.size
 obtain⟨rb,hrb⟩:=kJ h1.size
 rw[<-hab]at A1
 rw[<-hrb]at R2
 have A2:=A1.sZ p2
 have st2:=p1.tZ p2
 have k2:=kn.sZ st2
 have A21:=A2.1
 have R21:=R2.1
 have K21:=k2.B.1
 have hkb:=kn.B.1
 have hle:=k2.le
 have heq:=k2.eq
 -- a result is laid
 have out: ∀(u3:U) (h3:H) (vn' va':Value) (names':List Nm) (ar':List Int) (x y z:Int),kG (Sz kb (.slice na names.length nc) (.slice aa ar.length ac)) u h u3 h3->Kn k0 u3 h3 kb vn' va' names' ar'->kV u3 h3 rb [.int .i64 0,.int .i64 0,.int .i64 0]->(∀b,Sz kb vn' va' b->Sz kb (.slice na names.length nc) (.slice aa ar.length ac) b\/h.size<=b)-> ¬Sz kb vn' va' rb->
   kV u3 (kU h3 rb 0 [.int .i64 x,.int .i64 y,.int .i64 z]) rb [.int .i64 x,.int .i64 y,.int .i64 z]/\K (.agg #[.int .i64 x,.int .i64 y,.int .i64 z]) (kU h3 rb 0 [.int .i64 x,.int .i64 y,.int .i64 z]):=λu3 h3 vn' va' names' ar' x y z s3 k3 R3 hn hr=>by
  have sR:=kG.sets (S:=λb=>b=rb) u3 h3 (b:=rb) (o:=0) [.int .i64 x,.int .i64 y,.int .i64 z] rfl (by rw[R3.2.2.2.1];exact az _) (by rw[R3.2.1];exact aH _)
  refine⟨R3.sets rfl,hK x y z u3 _ vn' va' names' ar' (s3.rZ (.inl (by omega)) (by rw[R3.2.2.2.1];exact az _) (by rw[R3.2.1];exact aH _)) ?_ hn⟩
  exact⟨k3.B.step sR (λe=>hr (.inl e.symm)),k3.kb0,k3.on.step sR (λb q e=>hr (.inr (.inl (e▸q)))),k3.oa.step sR (λb q e=>hr (.inr (.inr (e▸q)))),k3.eq,k3.le,k3.n1,k3.n2,k3.n3⟩
 have hr2: ¬Sz kb (.slice na names.length nc) (.slice aa ar.length ac) rb:=λq=>by have:=(kn.ge q).2;omega
 have st2':kG (Sz kb (.slice na names.length nc) (.slice aa ar.length ac)) u h u2 h2:=st2.mono (λ_ _ q=>q.elim)
 have keep:=λx y z=>out u2 h2 _ _ names ar x y z st2' k2 R2 (λb q=> .inl q) hr2
 simp(disch:=first|omega|simp only[zz];try omega;done) only[↓reduceIte,go_sem,kn.B.at,kn.B.2.1]
 rw[<-hh1,<-hh2,<-hab,show ab+1=rb by omega]
 refine kD ⟨rfl,u2,_,names,a.1,rfl,k2.on.iZ,by omega,⟨kY,?_⟩⟩
 by_cases hm:a.1∈names
 ·obtain⟨i,q1,q2,-⟩:=oN hm
  rw[q1]
  obtain⟨y,hy⟩: ∃y,ar[i]? =some y:=⟨ar[i]'(by omega),by rw[aL]⟩
  obtain⟨pb,po,rfl,hpb,hpu,hpz,hpr⟩:=k2.oa.iZ.row i y hy
  rw[lD]at hpr
  simp only[nM,oV,aG,aP]at hpr hpu hpz
  by_cases hne:y=a.2.1.length
  ·obtain⟨x1,hK'⟩:=keep 0 0 0
   have x11:=x1.1
   simp(disch:=first|omega|simp only[zz];try omega;done) only[↓reduceIte,go_sem,A2.at,A2.2.1,k2.B.at,k2.B.2.1,af (show(0:Int)<=(i:Int) by omega),af (show(i:Int)<ar.length by omega),hpr,af hne,au (show¬(i:Int)<0 by omega),R2.2.1,R2.2.2.1,x1.at,x1.2.1]
   exact hK'
  ·obtain⟨x1,hK'⟩:=keep 30 t a.2.2
   have x11:=x1.1
   simp(disch:=first|omega|simp only[zz];try omega;done) only[↓reduceIte,go_sem,A2.at,A2.2.1,k2.B.at,k2.B.2.1,af (show(0:Int)<=(i:Int) by omega),af (show(i:Int)<ar.length by omega),hpr,au hne,R2.2.1,R2.2.2.1,x1.at,x1.2.1]
   exact hK'
 ·rw[uW hm]
  by_cases h128:names.length=128
  ·obtain⟨x1,hK'⟩:=keep 31 t a.2.2
   have x11:=x1.1
   simp(disch:=first|omega|simp only[zz];try omega;done) only[↓reduceIte,go_sem,A2.at,A2.2.1,k2.B.at,k2.B.2.1,af (show(names.length:Int)=128 by omega),R2.2.1,R2.2.2.1,x1.at,x1.2.1]
   exact hK'
  ·simp(disch:=first|omega|simp only[zz];try omega;done) only[↓reduceIte,go_sem,A2.at,A2.2.1,k2.B.at,k2.B.2.1,au (show¬(names.length:Int)=128 by omega)]
   have zk:k0<=h2.size:=gZ (Nat.lt_of_le_of_lt kn.kb0 k2.B.1)
   refine kK (by simp only[]) k2.on (x:=a.1) (by rw[nu]) rfl rfl zk (by omega) λa3 m3 c3 u3 h3 o3 s3 hO3=>⟨kY,?_⟩
   obtain⟨N2,hN2⟩:=kJ (α:=List Nm) (names++[a.1])
   have hN2l:N2.length=names.length+1:=by rw[hN2];simp
   rw[<-hN2]at o3
   obtain⟨_,_,hme,-,-⟩:=o3.sl
   simp only[Value.slice.injEq]at hme
   obtain⟨rfl,rfl,rfl⟩:=hme
   have B3:=k2.B.step s3 kn.n1
   have A3:=A2.step s3 (λq=>by have:=kn.on.lt q;omega)
   have R3:=R2.step s3 (λq=>by have:=kn.on.lt q;omega)
   have oa3:=k2.oa.step s3 (λb q q'=>kn.n3 b q' q)
   have z3:=s3.ge.sz
   have nk3: ¬kN (.slice a3 N2.length c3) kb:=λq=>by
    rcases hO3 _ q with q|q
    ·exact kn.n1 q
    ·omega
   have s4:=kG.set (S:=λb=>b=kb) u3 h3 (b:=kb) (o:=0) (.slice a3 N2.length c3) rfl (by rw[B3.2.2.2.1];exact az _)
   have B4:kV u3 (lh h3 kb 0 (.slice a3 N2.length c3)) kb [.slice a3 N2.length c3,.slice aa ar.length ac]:=B3.set (i:=0) (v:= .slice a3 N2.length c3) (by simp)
   have B31:=B3.1
   simp(disch:=first|omega|simp only[zz];try omega;done) only[↓reduceIte,go_sem,B3.2.1,B3.2.2.1]
   obtain⟨h4,hh4⟩:=kJ (lh h3 kb 0 (.slice a3 N2.length c3))
   rw[<-hh4]at s4 B4 ⊢
   have A4:=A3.step s4 (λq=>by omega)
   have R4:=R3.step s4 (λq=>by omega)
   have o4:=o3.step s4 (λb q e=>nk3 (e▸q))
   have oa4:=oa3.step s4 (λb q e=>kn.n2 (e▸q))
   have z4:=s4.ge.sz
   have A31:=A3.1
   have z43:h4.size=h3.size:=by rw[hh4];exact qz
   have A41:=A4.1
   have B41:=B4.1
   simp(disch:=first|omega|simp only[zz];try omega;done) only[↓reduceIte,go_sem,A4.at,A3.2.1,B4.at,<-z43]
   have zk4:k0<=h4.size:=by omega
   refine kK (by simp only[]) oa4 (x:=(a.2.1.length:Int)) (by rw[lD]) rfl rfl zk4 (by omega) λa5 m5 c5 u5 h5 o5 s5 hO5=>⟨kY,?_⟩
   obtain⟨A5,hA5⟩:=kJ (α:=List Int) (ar++[(a.2.1.length:Int)])
   have hA5l:A5.length=ar.length+1:=by rw[hA5];simp
   rw[<-hA5]at o5
   obtain⟨_,_,hme,-,-⟩:=o5.sl
   simp only[Value.slice.injEq]at hme
   obtain⟨rfl,rfl,rfl⟩:=hme
   have B5:=B4.step s5 kn.n2
   have R5:=R4.step s5 (λq=>by have:=kn.oa.lt q;omega)
   have o5n:=o4.step s5 (λb q q'=>by
    rcases hO3 _ q with q|q
    ·exact kn.n3 b q q'
    ·have:=kn.oa.lt q';have:=p1.ge.sz;omega)
   have z5:=s5.ge.sz
   have nk5: ¬kN (.slice a5 A5.length c5) kb:=λq=>by
    rcases hO5 _ q with q|q
    ·exact kn.n2 q
    ·omega
   have s6:=kG.set (S:=λb=>b=kb) u5 h5 (b:=kb) (o:=1) (.slice a5 A5.length c5) rfl (by rw[B5.2.2.2.1];exact az _)
   have B6:kV u5 (lh h5 kb 1 (.slice a5 A5.length c5)) kb [.slice a3 N2.length c3,.slice a5 A5.length c5]:=B5.set (i:=1) (v:= .slice a5 A5.length c5) (by simp)
   have B51:=B5.1
   have R51:=R5.1
   obtain⟨h6,hh6⟩:=kJ (lh h5 kb 1 (.slice a5 A5.length c5))
   rw[<-hh6]at s6 B6
   have R6:=R5.step s6 (λq=>by omega)
   have R61:=R6.1
   have k6:Kn k0 u5 h6 kb (.slice a3 N2.length c3) (.slice a5 A5.length c5) N2 A5:=⟨B6,kn.kb0,o5n.step s6 (λb q e=>nk3 (e▸q)),o5.step s6 (λb q e=>nk5 (e▸q)),by omega,by omega,nk3,nk5,λb q q'=>by
    rcases hO3 _ q with q|q
    ·rcases hO5 _ q' with q'|q'
     ·exact kn.n3 b q q'
     ·have:=kn.on.lt q;omega
    ·rcases hO5 _ q' with q'|q'
     ·have:=kn.oa.lt q';omega
     ·have:=o4.lt (b:=b) (by assumption);omega⟩
   have up: ∀{b:Nat},kN (.slice na names.length nc) b->Sz kb (.slice na names.length nc) (.slice aa ar.length ac) b:=λq=> .inr (.inl q)
   have st6:kG (Sz kb (.slice na names.length nc) (.slice aa ar.length ac)) u h u5 h6:=(((st2'.trans s3 λb _ q=>up q).trans s4 λb _ q=> .inl q).trans s5 λb _ q=> .inr (.inr q)).trans s6 λb _ q=> .inl q
   obtain⟨x1,hK'⟩:=out u5 h6 _ _ N2 A5 0 0 0 st6 k6 R6 (λb q=>by
    rcases q with rfl|q|q
    ·exact .inl (.inl rfl)
    ·rcases hO3 _ q with q|q
     ·exact .inl (up q)
     ·exact .inr (by omega)
    ·rcases hO5 _ q with q|q
     ·exact .inl (.inr (.inr q))
     ·exact .inr (by omega)) (λq=>by
    rcases q with q|q|q
    ·omega
    ·rcases hO3 _ q with q|q
     ·exact hr2 (up q)
     ·omega
    ·rcases hO5 _ q with q|q
     ·exact hr2 (.inr (.inr q))
     ·omega)
   have x11:=x1.1
   simp(disch:=first|omega|simp only[zz];try omega;done) only[↓reduceIte,go_sem,B5.2.1,B5.2.2.1,<-hh6,R6.2.1,R6.2.2.1,x1.at,x1.2.1]
   exact hK'
end Go.Proofs.Z
namespace Go.Proofs.Z
open Go Go.Ev Edict
variable {vn:Value} {u':U} {h2:H} {u2:U} {h':H} {va:Value} {kb:Nat} {h:H} {ar:List Int} {u:U} {rb:Nat} {K:Value->H->Prop}
structure Zp (u:U) (h:H) (kb rb:Nat) (u':U) (h':H) (vn va:Value) (names:List Nm) (ar:List Int):Prop where
 st:kG S0 u h u' h'
 kn:Kn h.size u' h' kb vn va names ar
 R:kV u' h' rb [.int .i64 0,.int .i64 0,.int .i64 0]
 rb0:h.size<=rb
 nr: ¬Sz kb vn va rb
theorem Zp.sZ{names:List Nm}(a:Zp u h kb rb u' h' vn va names ar)(s:kG S0 u' h' u2 h2):Zp u h kb rb u2 h2 vn va names ar:=⟨a.st.tZ s,a.kn.sZ s,a.R.sZ s,a.rb0,a.nr⟩
theorem Zp.look{vn' va':Value}{names names':List Nm}{ar':List Int}(a:Zp u h kb rb u' h' vn va names ar)(s:kG (Sz kb vn va) u' h' u2 h2)(k:Kn h.size u2 h2 kb vn' va' names' ar')(hn: ∀b,Sz kb vn' va' b->Sz kb vn va b\/h'.size<=b):Zp u h kb rb u2 h2 vn' va' names' ar':=
 ⟨a.st.own s λb q=>(a.kn.ge q).1,k,a.R.step s a.nr,a.rb0,λq=>by
  rcases hn _ q with q|q
  ·exact a.nr q
  ·have:=a.R.1;omega⟩
theorem Zp.out{names:List Nm}(a:Zp u h kb rb u' h' vn va names ar)(hK: ∀(c t o:Int) (u':U) (h':H),kG S0 u h u' h'->K (.agg #[.int .i64 c,.int .i64 t,.int .i64 o]) h')(x y z:Int):kV u' (kU h' rb 0 [.int .i64 x,.int .i64 y,.int .i64 z]) rb [.int .i64 x,.int .i64 y,.int .i64 z]/\K (.agg #[.int .i64 x,.int .i64 y,.int .i64 z]) (kU h' rb 0 [.int .i64 x,.int .i64 y,.int .i64 z]):=
 ⟨a.R.sets rfl,hK x y z u' _ (a.st.rZ (.inl a.rb0) (by rw[a.R.2.2.2.1];exact az _) (by rw[a.R.2.1];exact aH _))⟩
def Lm(vs:List Value)(h:H)(K:Value->H->Prop):Prop:= ∃(u:U) (p:List kX) (fs:List lH) (v w:Value),vs=[.agg #[v],w]/\kM u h v p/\kM u h w fs/\p.length<=512/\(∀c∈p,c.2.length<=16)/\fs.length<=4096/\ ∀(c t o:Int) (u':U) (h':H),kG S0 u h u' h'->K (.agg #[.int .i64 c,.int .i64 t,.int .i64 o]) h'
def Rz:mG:=λf vs h K _=>(f=57/\Lr vs h K)\/(f=58/\abX vs h K)
theorem IP:nz Tryz.prog Rz:=mK NQ (qd YR)
theorem NN{vs:List Value}{KP:List PanicEntry->H->Prop}(hC:Lm vs h K):ma Tryz.prog 21 vs h K KP:=by
 obtain⟨u,p,fs,v,w,rfl,iv,iw,hp,hp16,has,hK⟩:=hC
 refine kP 71403894716087 [((some (.c1 (.ldn 3) (.t 4))),(.o1 (.ldn 3) (.t 4)))] IP Tryz.func21 (by kernel_rfl) (by conv=>lhs;cbv;try simp only[mF]) ?_
 obtain⟨va,vc,rfl,-,-⟩:=iv.sl
 obtain⟨wa,wc,rfl,-,-⟩:=iw.sl
 obtain⟨h1,u1,hh1,zh1,p1,P1⟩:=kL u h [.slice va p.length vc] 87
 obtain⟨h2,u2,hh2,zh2,p2,R2⟩:=sJ u1 h1
 obtain⟨h3,u3,hh3,zh3,p3,B3⟩:=kL u2 h2 [.slice none 0 0,.slice none 0 0] 145
 obtain⟨pb,hpb⟩:=kJ h.size
 obtain⟨rb,hrb⟩:=kJ h1.size
 obtain⟨kb,hkb⟩:=kJ h2.size
 rw[<-hpb]at P1
 rw[<-hrb]at R2
 rw[<-hkb]at B3
 have P3:=(P1.sZ p2).sZ p3
 have R3:=R2.sZ p3
 have P31:=P3.1
 have xE: ∀b,¬kN (.slice none 0 0) b:=λb ⟨o,n,c,e⟩=>by cases e
 have A3:Zp u h kb rb u3 h3 (.slice none 0 0) (.slice none 0 0) [] []:=⟨(p1.tZ p2).tZ p3,⟨B3,by omega,.nil _ _ _,.nil _ _ _,rfl,by simp,xE _,xE _,λb q=>absurd q (xE b)⟩,R3,by omega,λq=>by
  rcases q with q|q|q
  ·omega
  ·exact xE _ q
  ·exact xE _ q⟩
 simp(disch:=first|omega|simp only[zz];try omega;done) only[↓reduceIte,go_sem]
 rw[<-hh1,<-hh2,<-hh3,<-hpb,show pb+1=rb by omega,show rb+1=kb by omega]
 obtain⟨I,hI⟩:=kJ (α:=Nat->lm->H->Prop) λk σ h'=> ∃(u':U) (vn va':Value) (names:List Nm) (ar:List Int),σ 1= .slice wa fs.length wc/\σ 4= .pointer (some ⟨rb,0,none⟩)/\σ 5= .pointer (some ⟨kb,0,none⟩)/\σ 15= .slice va p.length vc/\σ 16= .int .i64 (p.length:Nat)/\σ 17= .int .i64 k/\k<=p.length/\Zp u h kb rb u' h' vn va' names ar
 refine kH I (λj=>p.length - j) 0 (by rw[hI];exact⟨u3,_,_,_,_,by simp [kF],by simp [kF],by simp [kF],by simp [kF],by simp [kF],by simp [kF],by omega,A3⟩) ?_
 clear hh1 hh2 hh3 P1 P3 R3 B3 R2 A3
 intro k σ h' hi
 rw[hI]at hi
 obtain⟨u',vn,va',names,ar,e1,e4,e5,e15,e16,e17,hk,A⟩:=hi
 by_cases hlt:k<p.length
 case neg=>
  simp(disch:=first|omega|simp only[zz];try omega;done) only[↓reduceIte,go_sem,e1,e16,e17,au (show¬(k:Int)<(p.length:Nat) by omega)]
  obtain⟨J,hJ⟩:=kJ (α:=Nat->lm->H->Prop) λj σ h''=> ∃(u9:U) (vn va':Value) (names:List Nm) (ar:List Int),σ 4= .pointer (some ⟨rb,0,none⟩)/\σ 5= .pointer (some ⟨kb,0,none⟩)/\σ 36= .slice wa fs.length wc/\σ 37= .int .i64 (fs.length:Nat)/\σ 38= .int .i64 j/\j<=fs.length/\Ge u' h' u9 h''/\Zp u h kb rb u9 h'' vn va' names ar
  refine kH J (λj=>fs.length - j) 0 (by rw[hJ];exact⟨u',_,_,_,_,by simp [kF,e4],by simp [kF,e5],by simp [kF],by simp [kF],by simp [kF],by omega,Ge.refl _ _,A⟩) ?_
  intro j σ h'' hj
  rw[hJ]at hj
  obtain⟨u'',vn2,va2,names2,ar2,f4,f5,el,en,ei,hjl,gJ,AJ⟩:=hj
  by_cases hlj:j<fs.length
  case neg=>
   obtain⟨x1,hK'⟩:=AJ.out hK 0 0 0
   have x11:=x1.1
   have RJ1:=AJ.R.1
   simp(disch:=first|omega|simp only[zz];try omega;done) only[↓reduceIte,go_sem,f4,en,ei,au (show¬(j:Int)<(fs.length:Nat) by omega),AJ.R.2.1,AJ.R.2.2.1,x1.at,x1.2.1]
   exact hK'
  obtain⟨y,hy⟩:=uu hlj
  obtain⟨tb,to,rfl,hqb,hqu,hqz,hqr⟩:=((iw.mono A.st.ge).mono gJ).row j y hy
  rw[oK]at hqr
  obtain⟨yv2,hqr,iyv2⟩:=hqr
  obtain⟨ya2,yc2,rfl,-,-⟩:=iyv2.sl
  simp only[uU,vD,aG,aP]at hqr hqu hqz
  obtain⟨q0,q1,q2⟩:=hqr
  obtain⟨hB',hB,uB,hhB',hhB,BB',BB,sB,hzB⟩:=kZ u'' h'' [str [],.slice none 0 0,.int .i64 0] [str y.1,.slice ya2 y.2.1.length yc2,.int .i64 y.2.2] 52 rfl
  have BB1:=BB.1
  have BB'1:=BB'.1
  have AB:=AJ.sZ sB
  simp(disch:=first|omega|simp only[zz];try omega;done) only[↓reduceIte,go_sem,f5,el,en,ei,af (show(j:Int)<(fs.length:Nat) by omega),q0,q1,q2,<-hhB',<-hhB,BB'.2.1,BB'.2.2.1,BB.at,BB.2.1]
  refine kD (.inr ⟨rfl,uB,h.size,kb,vn2,va2,_,names2,ar2,y,1,rfl,AB.kn,iyv2.mono sB.ge,λc t o (uC:U) (hC:H) vn3 va3 names3 ar3 sC kC hn=>⟨kY,?_⟩⟩)
  have AC:=AB.look sC kC hn
  obtain⟨hD,uD,hhD,zD,pD,FD⟩:=kL uC hC [.int .i64 c,.int .i64 t,.int .i64 o] 44
  have AD:=AC.sZ pD
  have FD1:=FD.1
  have RD1:=AD.R.1
  by_cases hc0:c=0
  ·simp(disch:=first|omega|simp only[zz];try omega;done) only[↓reduceIte,go_sem,ei,<-hhD,FD.at,FD.2.1,af hc0]
   refine⟨j+1,?_,by omega⟩
   rw[hJ]
   exact⟨uD,_,_,_,_,by simp [kF,f4],by simp [kF,f5],by simp [kF,el],by simp [kF,en],by simp [kF],hlj,((gJ.trans sB.ge).trans sC.ge).trans pD.ge,AD⟩
  ·obtain⟨x1,hK'⟩:=AD.out hK c t o
   have x11:=x1.1
   simp(disch:=first|omega|simp only[zz];try omega;done) only[↓reduceIte,go_sem,f4,<-hhD,FD.at,FD.2.1,au hc0,AD.R.2.1,AD.R.2.2.1,x1.at,x1.2.1]
   exact hK'
 obtain⟨x,hx⟩:=uu hlt
 obtain⟨qb,qo,rfl,hpb',hpu,hpz,hpr⟩:=(iv.mono A.st.ge).row k x hx
 rw[rE]at hpr
 obtain⟨xv,yv,hpr,ixv,iyv⟩:=hpr
 obtain⟨xa,xc,rfl,-,-⟩:=ixv.sl
 obtain⟨ya,yc,rfl,-,-⟩:=iyv.sl
 simp only[vo,uH,aG,aP]at hpr hpu hpz
 obtain⟨p0,p1',p2',p3'⟩:=hpr
 obtain⟨h5',h6,u6,hh5,hh6,B5,B6,s6,hz6⟩:=kZ u' h' [str [],.slice none 0 0,.int .i64 0,.slice none 0 0] [str x.1.1,.slice xa x.1.2.1.length xc,.int .i64 x.1.2.2,.slice ya x.2.length yc] 147 rfl
 have B51:=B5.1
 have B61:=B6.1
 have A6:=A.sZ s6
 simp(disch:=first|omega|simp only[zz];try omega;done) only[↓reduceIte,go_sem,e15,e16,e17,af (show(k:Int)<(p.length:Nat) by omega),p0,p1',p2',p3',<-hh5,<-hh6,B5.2.1,B5.2.2.1,B6.at,B6.2.1]
 refine kD (.inl ⟨rfl,u6,x,_,_,rfl,ixv.mono s6.ge,iyv.mono s6.ge,hp16 x (aI hx),fun(u7:U) (h7:H) lv s7 ⟨al,il,hal⟩=>⟨kY,?_⟩⟩)
 obtain⟨la,lc,rfl,-,-⟩:=il.sl
 have A7:=A6.sZ s7
 simp(disch:=first|omega|simp only[zz];try omega;done) only[↓reduceIte,go_sem]
 obtain⟨J,hJ⟩:=kJ (α:=Nat->lm->H->Prop) λj σ h''=> ∃(u9:U) (vn va':Value) (names:List Nm) (ar:List Int),σ 1= .slice wa fs.length wc/\σ 4= .pointer (some ⟨rb,0,none⟩)/\σ 5= .pointer (some ⟨kb,0,none⟩)/\σ 15= .slice (some ⟨qb,qo,none⟩) p.length vc/\σ 16= .int .i64 (p.length:Nat)/\σ 17= .int .i64 k/\σ 22= .slice la al.length lc/\σ 23= .int .i64 (al.length:Nat)/\σ 24= .int .i64 j/\j<=al.length/\Ge u7 h7 u9 h''/\Zp u h kb rb u9 h'' vn va' names ar
 refine kH J (λj=>al.length - j) 0 (by rw[hJ];exact⟨u7,_,_,_,_,by simp [kF,e1],by simp [kF,e4],by simp [kF,e5],by simp [kF,e15],by simp [kF,e16],by simp [kF,e17],by simp [kF],by simp [kF],by simp [kF],by omega,Ge.refl _ _,A7⟩) ?_
 intro j σ h'' hj
 rw[hJ]at hj
 obtain⟨u'',vn2,va2,names2,ar2,f1,f4,f5,f15,f16,f17,el,en,ei,hjl,gJ,AJ⟩:=hj
 by_cases hlj:j<al.length
 case neg=>
  simp(disch:=first|omega|simp only[zz];try omega;done) only[↓reduceIte,go_sem,f17,en,ei,au (show¬(j:Int)<(al.length:Nat) by omega)]
  refine⟨k+1,?_,by omega⟩
  rw[hI]
  exact⟨u'',_,_,_,_,by simp [kF,f1],by simp [kF,f4],by simp [kF,f5],by simp [kF,f15],by simp [kF,f16],by simp [kF],hlt,AJ⟩
 obtain⟨y,hy⟩:=uu hlj
 obtain⟨tb,to,rfl,hqb,hqu,hqz,hqr⟩:=(il.mono gJ).row j y hy
 rw[oK]at hqr
 obtain⟨yv2,hqr,iyv2⟩:=hqr
 obtain⟨ya2,yc2,rfl,-,-⟩:=iyv2.sl
 simp only[uU,vD,aG,aP]at hqr hqu hqz
 obtain⟨q0,q1,q2⟩:=hqr
 obtain⟨hB',hB,uB,hhB',hhB,BB',BB,sB,hzB⟩:=kZ u'' h'' [str [],.slice none 0 0,.int .i64 0] [str y.1,.slice ya2 y.2.1.length yc2,.int .i64 y.2.2] 52 rfl
 have BB1:=BB.1
 have BB'1:=BB'.1
 have AB:=AJ.sZ sB
 simp(disch:=first|omega|simp only[zz];try omega;done) only[↓reduceIte,go_sem,f5,el,en,ei,af (show(j:Int)<(al.length:Nat) by omega),q0,q1,q2,<-hhB',<-hhB,BB'.2.1,BB'.2.2.1,BB.at,BB.2.1]
 refine kD (.inr ⟨rfl,uB,h.size,kb,vn2,va2,_,names2,ar2,y,0,rfl,AB.kn,iyv2.mono sB.ge,λc t o (uC:U) (hC:H) vn3 va3 names3 ar3 sC kC hn=>⟨kY,?_⟩⟩)
 have AC:=AB.look sC kC hn
 obtain⟨hD,uD,hhD,zD,pD,FD⟩:=kL uC hC [.int .i64 c,.int .i64 t,.int .i64 o] 44
 have AD:=AC.sZ pD
 have FD1:=FD.1
 have RD1:=AD.R.1
 by_cases hc0:c=0
 ·simp(disch:=first|omega|simp only[zz];try omega;done) only[↓reduceIte,go_sem,ei,<-hhD,FD.at,FD.2.1,af hc0]
  refine⟨j+1,?_,by omega⟩
  rw[hJ]
  exact⟨uD,_,_,_,_,by simp [kF,f1],by simp [kF,f4],by simp [kF,f5],by simp [kF,f15],by simp [kF,f16],by simp [kF,f17],by simp [kF,el],by simp [kF,en],by simp [kF],hlj,((gJ.trans sB.ge).trans sC.ge).trans pD.ge,AD⟩
 ·obtain⟨x1,hK'⟩:=AD.out hK c t o
  have x11:=x1.1
  simp(disch:=first|omega|simp only[zz];try omega;done) only[↓reduceIte,go_sem,f4,<-hhD,FD.at,FD.2.1,au hc0,AD.R.2.1,AD.R.2.2.1,x1.at,x1.2.1]
  exact hK'
end Go.Proofs.Z
namespace Go.Proofs.Z
open Go Go.Ev Edict
theorem CJ:Rep.sz Bool=1:=rfl
def Ll(vs:List Value)(h:H)(K:Value->H->Prop):Prop:= ∃(u:U) (c:kX) (v w:Value),vs=[.agg #[str c.1.1,v,.int .i64 c.1.2.2,w]]/\kM u h v c.1.2.1/\kM u h w c.2/\mH c/\ ∀u' h' a b,kG S0 u h u' h'->kM u' h' a ((qh c).map (·.1))->kM u' h' b ((qh c).map (·.2))->(qh c).length<=136->K (.tuple #[a,b]) h'
structure Two (k0:Nat) (u:U) (h:H) (a b:Value) (P:List (ll×Bool)):Prop where
 oa:mr k0 u h a (P.map (·.1))
 ob:mr k0 u h b (P.map (·.2))
 ap: ∀x,kN a x-> ¬kN b x
theorem Two.sZ{k0:Nat}{u u':U}{h h':H}{a b:Value}{P:List (ll×Bool)}(t:Two k0 u h a b P)(s:kG S0 u h u' h'):Two k0 u' h' a b P:=⟨t.oa.sZ s,t.ob.sZ s,t.ap⟩
theorem NM{vs:List Value}{h:H}{K:Value->H->Prop}{KP:List PanicEntry->H->Prop}(hC:Ll vs h K):ma Tryz.prog 59 vs h K KP:=by
 obtain⟨u,c,v,w,rfl,iv,iw,hf,hK⟩:=hC
 refine kP 1031873758655 [(none,(.t 2)),(none,(.t 3))] (G:=(λ_ _ _ _ _=>False)) (λ_ _ _ _ _ h=>h.elim) Tryz.func59 (by kernel_rfl) (by conv=>lhs;cbv;try simp only[mF]) ?_
 obtain⟨va,vc,rfl,-,-⟩:=iv.sl
 obtain⟨wa,wc,rfl,-,-⟩:=iw.sl
 have h8:=hf.1
 have h16:=hf.2.1
 obtain⟨h1,u1,hh1,zh1,p1,A1⟩:=kL u h [str c.1.1,.slice va c.1.2.1.length vc,.int .i64 c.1.2.2,.slice wa c.2.length wc] 147
 obtain⟨b1,hb1⟩:=kJ h.size
 rw[<-hb1]at A1
 have A11:=A1.1
 have z1:=p1.ge.sz
 simp(disch:=first|omega|simp only[zz];try omega;done) only[↓reduceIte,go_sem,<-hh1,<-hb1,A1.at,A1.2.1]
 refine qY (k:=h.size) (.nil _ _ _) (iv.mono p1.ge) rfl rfl z1 (by simp only[bg];omega) λa2 n2 c2 u2 h2 o2 s2=>⟨kY,?_⟩
 rw[bI]at o2
 obtain⟨_,_,hme,-,-⟩:=o2.sl
 simp only[Value.slice.injEq]at hme
 obtain⟨rfl,rfl,rfl⟩:=hme
 have xE: ∀b,¬kN (.slice none 0 0) b:=λb ⟨o,n,c,e⟩=>by cases e
 have A2:=A1.step s2 (xE _)
 have st2:=p1.own s2 λb q=>absurd q (xE b)
 have A21:=A2.1
 obtain⟨n,hn⟩:=kJ c.1.2.1.length
 have o3:=mr.made (k:=h.size) (α:=Bool) u2 h2 (by have:=st2.ge.sz;omega) 4 (List.replicate n false) (qx [.bool false] n) (by rw[wP,dE,dE,CJ,aZ]) (by have:=ahh;rw[dE];omega) (λi y hy=>by
  rw[wP,CJ,aZ,vE]
  have hi:=(aJ.1 hy).1
  rw[dE]at hi
  rw[fT,ay hi]at hy
  cases hy
  rw[jb,List.take_replicate,show min 1 (n - i)=1 by omega];rfl)
 have p3:=kG.push S0 u2 h2 (qx [.bool false] n).toArray 4 ((List.replicate n false).length*Rep.sz Bool)
 obtain⟨h3,hh3⟩:=kJ (h2.push (.cells (qx [.bool false] n).toArray 4))
 obtain⟨u3,hu3⟩:=kJ (ub u2 h2.size ((List.replicate n false).length*Rep.sz Bool))
 rw[<-hh3,<-hu3]at p3 o3
 rw[dE]at o3
 have st3:=st2.tZ p3
 have A3:=A2.sZ p3
 have A31:=A3.1
 have hP0:Two h.size u3 h3 (.slice a2 n c2) (.slice (some ⟨h2.size,0,none⟩) n n) (c.1.2.1.map λt=>(t,false)):=by
  refine⟨?_,?_,λx q q'=> ?_⟩
  ·rw[gX]
   have e:c.1.2.1.map ((λx:ll×Bool=>x.1) ∘ λt=>(t,false))=c.1.2.1:=by simp [iK]
   rw[e,hn];exact o2.sZ p3
  ·rw[gX]
   have e:c.1.2.1.map ((λx:ll×Bool=>x.2) ∘ λt=>(t,false))=List.replicate n false:=by rw[hn];exact List.map_const' ..
   rw[e];exact o3
  ·obtain⟨o,m,k,e⟩:=q'
   cases e
   have:=o2.lt (b:=h2.size) (by rw[<-hn];exact q)
   omega
 simp(disch:=first|omega|simp only[zz];try omega;done) only[↓reduceIte,go_sem,<-hn,af (show n<=n from aH n),af (show(n:Int)*1<=140737488355328 by omega),<-hh3,A3.at,A3.2.1]
 obtain⟨I,hI⟩:=kJ (α:=Nat->lm->H->Prop) λk σ h'=> ∃(u':U) (a b:Value),σ 4=a/\σ 5=b/\σ 19= .slice wa c.2.length wc/\σ 20= .int .i64 (c.2.length:Nat)/\σ 21= .int .i64 k/\k<=c.2.length/\kG S0 u h u' h'/\Two h.size u' h' a b (c.1.2.1.map (λt=>(t,false))++sK (c.2.take k))
 refine kH I (λj=>c.2.length - j) 0 (by rw[hI];exact⟨u3,.slice a2 n c2,.slice (some ⟨h2.size,0,none⟩) n n,by simp [kF],by simp [kF],by simp [kF],by simp [kF],by simp [kF],by omega,st3,by simpa [sK]using hP0⟩) ?_
 clear hP0 o3 o2 A3 A2 A1 hh3
 intro k σ h' hi
 rw[hI]at hi
 obtain⟨u',a,b,e4,e5,e19,e20,e21,hk,st,T⟩:=hi
 have hplen: ∀m,(c.1.2.1.map (λt=>(t,false))++sK (c.2.take m):List (ll×Bool)).length<=136:=λm=>by
  rw[aN,aQ]
  have:(sK (c.2.take m)).length<=8*(c.2.take m).length:=by
   unfold sK
   refine zu λx hx=> ?_
   rw[aQ]
   have:=(hf.2.2 x (ed hx)).1
   unfold mZ
   split
   ·simp
   ·exact this
  rw[aT]at this
  have:=hf.2.1
  omega
 by_cases hlt:k<c.2.length
 case neg=>
  have e:c.1.2.1.map (λt=>(t,false))++sK (c.2.take k)=qh c:=by rw[aK (by omega)];rfl
  have hl:=hplen k
  rw[e]at T hl
  simp(disch:=first|omega|simp only[zz];try omega;done) only[↓reduceIte,go_sem,e4,e5,e20,e21,au (show¬(k:Int)<(c.2.length:Nat) by omega)]
  exact hK _ _ _ _ st T.oa.iZ T.ob.iZ hl
 obtain⟨x,hx⟩: ∃x,c.2[k]? =some x:=⟨c.2[k],by simp [hlt]⟩
 have hxf:=hf.2.2 x (aI hx)
 have hsn:sK (c.2.take (k+1))=sK (c.2.take k)++(mZ x).map λt=>(t,decide (x.1=1)):=DZ hx
 obtain⟨P,hP⟩:=kJ (c.1.2.1.map (λt=>(t,false))++sK (c.2.take k))
 have hPl:=hplen k
 rw[<-hP]at T hPl
 have hPn:c.1.2.1.map (λt=>(t,false))++sK (c.2.take (k+1))=P++(mZ x).map λt=>(t,decide (x.1=1)):=by rw[hsn,<-bB,<-hP]
 obtain⟨pb,po,rfl,hpb,hpu,hpz,hpr⟩:=(iw.mono st.ge).row k x hx
 rw[tQ]at hpr
 obtain⟨yv,hpr,iyv⟩:=hpr
 obtain⟨ya,yc,rfl,-,-⟩:=iyv.sl
 simp only[nL,yS,xF,aG,aP]at hpr hpu hpz
 obtain⟨p0,p1',p2',p3',p4,p5,p6,p7,p8,p9,p10,p11,p12,p13⟩:=hpr
 obtain⟨h5',h6,u6,hh5,hh6,B5,B6,s6,hz6⟩:=kZ u' h' [.int .i64 0,str [],.slice none 0 0,.int .i64 0,.int .i64 0,.int .i64 0,.int .i64 0,str [],.int .i64 0,.int .i64 0,.int .i64 0,str [],.int .i64 0,.int .i64 0] (nL x (.slice ya x.2.1.2.1.length yc)) 100 rfl
 simp only[nL]at hh6 B6
 have st6:=st.tZ s6
 have T6:=T.sZ s6
 have iy6:=iyv.mono s6.ge
 have B51:=B5.1
 have B61:=B6.1
 obtain⟨xb,hxb⟩:=kJ h'.size
 rw[<-hxb]at B5 B51 B6 B61 hh6
 have z6:=st6.ge.sz
 rcases dG (x.1=3)with h3|h3
 all_goals
  first
   |(have hlt3:mZ x=[x.2.2.2.1,x.2.2.2.2.1]:=ay h3
     have oX:=mr.made (k:=0) (α:=ll) u6 h6 (az _) 98 [x.2.2.2.1,x.2.2.2.2.1] (lW x.2.2.2.1++lW x.2.2.2.2.1) rfl (by simp only[aM,bg];decide) (λi y hy=>by
      match i,hy with
      |0,hy=>cases hy;rw[mV];rfl
      |1,hy=>cases hy;rw[mV];rfl
      |i+2,hy=>simp at hy)
     have pX:=kG.push S0 u6 h6 (lW x.2.2.2.1++lW x.2.2.2.2.1).toArray 98 (2*Rep.sz ll)
     obtain⟨h8',hh8⟩:=kJ (h6.push (.cells (lW x.2.2.2.1++lW x.2.2.2.2.1).toArray 98))
     obtain⟨u8,hu8⟩:=kJ (ub u6 h6.size (2*Rep.sz ll))
     have ix:kM u8 h8' (.slice (some ⟨h6.size,0,none⟩) 2 2) (mZ x):=by rw[hlt3,hh8,hu8];exact oX.iZ
     rw[<-hh8,<-hu8]at pX
     have z86:h6.size=h8'.size - 1:=by rw[hh8];simp
     simp only[lW,bO,bI]at hh8
     have st8:=st6.tZ pX
     have T8:=T6.sZ pX
     have B8:=B6.sZ pX
     simp(disch:=first|omega|simp only[zz];try omega;done) only[↓reduceIte,go_sem,e19,e20,e21,af (show(k:Int)<(c.2.length:Nat) by omega),p0,p1',p2',p3',p4,p5,p6,p7,p8,p9,p10,p11,p12,p13,<-hh5,<-hh6,B5.2.1,B5.2.2.1,<-hxb,B6.at,B6.2.1,af h3,<-hh8]
     obtain⟨kv,hkv⟩:=kJ (α:=Value) (.slice (some ⟨h6.size,0,none⟩) 2 2)
     rw[<-hkv]at ix
     have hl2:(mZ x).length=2:=by rw[hlt3];rfl)
   |(have hlt3:mZ x=x.2.1.2.1:=ah h3
     simp(disch:=first|omega|simp only[zz];try omega;done) only[↓reduceIte,go_sem,e19,e20,e21,af (show(k:Int)<(c.2.length:Nat) by omega),p0,p1',p2',p3',p4,p5,p6,p7,p8,p9,p10,p11,p12,p13,<-hh5,<-hh6,B5.2.1,B5.2.2.1,<-hxb,B6.at,B6.2.1,au h3]
     obtain⟨h8',hh8⟩:=kJ h6
     obtain⟨u8,hu8⟩:=kJ u6
     rw[<-hh8,<-hu8]at st6 T6 B6 iy6
     have st8:=st6
     have T8:=T6
     have B8:=B6
     have ix:kM u8 h8' (.slice ya x.2.1.2.1.length yc) (mZ x):=by rw[hlt3];exact iy6
     rw[<-hh8]
     obtain⟨kv,hkv⟩:=kJ (α:=Value) (.slice ya x.2.1.2.1.length yc)
     rw[<-hkv]at ix
     have hl2:(mZ x).length=x.2.1.2.1.length:=by rw[hlt3])
  have hl8:(mZ x).length<=8:=by have:=hxf.1;omega
  obtain⟨J,hJ⟩:=kJ (α:=Nat->lm->H->Prop) λj σ h''=> ∃(u'':U) (a b:Value),σ 4=a/\σ 5=b/\σ 7= .pointer (some ⟨xb,0,none⟩)/\σ 19= .slice (some ⟨pb,po,none⟩) c.2.length wc/\σ 20= .int .i64 (c.2.length:Nat)/\σ 21= .int .i64 k/\σ 36=kv/\σ 37= .int .i64 ((mZ x).length:Nat)/\σ 38= .int .i64 j/\j<=(mZ x).length/\Ge u8 h8' u'' h''/\kG S0 u h u'' h''/\kV u'' h'' xb (nL x (.slice ya x.2.1.2.1.length yc))/\ ¬kN a xb/\ ¬kN b xb/\Two h.size u'' h'' a b (P++((mZ x).take j).map λt=>(t,decide (x.1=1)))
  have hxn: ¬kN a xb/\ ¬kN b xb:=⟨λq=>by have:=T.oa.lt q;omega,λq=>by have:=T.ob.lt q;omega⟩
  refine kH J (λj=>(mZ x).length - j) 0 (by rw[hJ];exact⟨u8,a,b,by simp [kF,e4],by simp [kF,e5],by simp [kF],by simp [kF,e19],by simp [kF,e20],by simp [kF,e21],by simp [kF,hkv],by simp [kF,hl2],by simp [kF],by omega,Ge.refl _ _,st8,B8,hxn.1,hxn.2,by simpa using T8⟩) ?_
  intro j σ h'' hj
  rw[hJ]at hj
  obtain⟨u'',a,b,f4,f5,f7,f19,f20,f21,f36,f37,f38,hj,gJ,stJ,BJ,na,nb,TJ⟩:=hj
  simp only[nL]at BJ
  have BJ1:=BJ.1
  obtain⟨M,hM⟩:=kJ (P++((mZ x).take j).map λt=>(t,decide (x.1=1)))
  have hMl:M.length<=144:=by rw[hM,aN,aQ,aT];omega
  rw[<-hM]at TJ
  obtain⟨ka,kc,rfl,-,-⟩:=ix.sl
  by_cases hlj:j<(mZ x).length
  case neg=>
   simp(disch:=first|omega|simp only[zz];try omega;done) only[↓reduceIte,go_sem,f21,f37,f38,au (show¬(j:Int)<((mZ x).length:Nat) by omega)]
   refine⟨k+1,?_,by omega⟩
   rw[hI]
   refine⟨u'',a,b,by simp [kF,f4],by simp [kF,f5],by simp [kF,f19],by simp [kF,f20],by simp [kF],hlt,stJ,?_⟩
   rw[aK (by omega)]at hM
   rw[hPn,<-hM];exact TJ
  obtain⟨y,hy⟩: ∃y,(mZ x)[j]? =some y:=⟨(mZ x)[j],by simp [hlj]⟩
  have hMn:P++((mZ x).take (j+1)).map (λt=>(t,decide (x.1=1)))=M++[(y,decide (x.1=1))]:=by rw[aS,hy,hM];simp
  obtain⟨tb,to,rfl,hqb,hqu,hqz,hqr⟩:=(ix.mono gJ).row j y hy
  rw[mV]at hqr
  simp only[lW,uR,uH,aG,aP]at hqr hqu hqz
  obtain⟨q0,q1,q2,q3⟩:=hqr
  obtain⟨hB',hB,uB,hhB',hhB,BB',BB,sB,hzB⟩:=kZ u'' h'' [.int .i64 0,.int .i64 0,str [],.int .i64 0] (lW y) 98 rfl
  simp only[lW]at hhB BB
  have BB1:=BB.1
  have BB'1:=BB'.1
  have TB:=TJ.sZ sB
  have BX:=BJ.sZ sB
  have stB:=stJ.tZ sB
  have zB:=stB.ge.sz
  obtain⟨a9,c9,rfl,-,-⟩:=TB.oa.sl
  obtain⟨b9,d9,rfl,-,-⟩:=TB.ob.sl
  have hm1:(M.map (·.1)).length=M.length:=aQ ..
  have hm2:(M.map (·.2)).length=M.length:=aQ ..
  simp(disch:=first|omega|simp only[zz];try omega;done) only[↓reduceIte,go_sem,f4,f36,f37,f38,af (show(j:Int)<((mZ x).length:Nat) by omega),q0,q1,q2,q3,<-hhB',<-hhB,BB'.2.1,BB'.2.2.1,BB.at,BB.2.1]
  refine kK (by simp only[]) TB.oa (x:=y) (by rw[mV];rfl) rfl rfl zB (by omega) λaC nC cC uC hC oC sC hOC=>⟨kY,?_⟩
  have stC:=stB.own sC λb q=>TB.oa.ge q
  have BC:=BX.step sC na
  have obC:=TB.ob.step sC (λb q q'=>TB.ap b q' q)
  have BC1:=BC.1
  have zC:=stC.ge.sz
  have naC: ¬kN (.slice aC nC cC) xb:=λq=>by
   rcases hOC _ q with q|q
   ·exact na q
   ·have:=BX.1;omega
  simp(disch:=first|omega|simp only[zz];try omega;done) only[↓reduceIte,go_sem,f5,f7,BC.at,BC.2.1]
  refine kK (by simp only[]) obC (x:=decide (x.1=1)) (by rw[vE]) rfl rfl zC (by omega) λaD nD cD uD hD oD sD hOD=>⟨kY,?_⟩
  have stD:=stC.own sD λb q=>obC.ge q
  have BD:=BC.step sD nb
  have oaD:=oC.step sD (λb q q'=>by
   rcases hOC _ q with q|q
   ·exact TB.ap b q q'
   ·have:=TB.ob.lt q';omega)
  have nbD: ¬kN (.slice aD nD cD) xb:=λq=>by
   rcases hOD _ q with q|q
   ·exact nb q
   ·have:=BC.1;omega
  simp(disch:=first|omega|simp only[zz];try omega;done) only[↓reduceIte,go_sem,f38]
  refine⟨j+1,?_,by omega⟩
  rw[hJ]
  refine⟨uD,.slice aC nC cC,.slice aD nD cD,by simp [kF],by simp [kF],by simp [kF,f7],by simp [kF,f19],by simp [kF,f20],by simp [kF,f21],by simp [kF,f36],by simp [kF,f37],by simp [kF],hlj,((gJ.trans sB.ge).trans sC.ge).trans sD.ge,stD,BD,naC,nbD,?_⟩
  rw[hMn]
  refine⟨by rw[eD];exact oaD,by rw[eD];exact oD,λb q q'=> ?_⟩
  rcases hOD _ q' with q'|q'
  ·rcases hOC _ q with q|q
   ·exact TB.ap b q q'
   ·have:=TB.ob.lt q';omega
  ·have:=oC.lt q;omega
end Go.Proofs.Z
namespace Edict
def NK(P:List (ll×Bool)):List Nm:=P.filterMap λx=>if x.2=true/\x.1.1=4/\x.1.2.2.1≠[95]then some x.1.2.2.1 else none
theorem ad5{P:List (ll×Bool)}{n:Nm}:n∈NK P↔ ∃s,(s,true)∈P/\s.1=4/\s.2.2.1≠[95]/\s.2.2.1=n:=by
 unfold NK
 rw[List.mem_filterMap]
 constructor
 ·rintro ⟨⟨s,b⟩,h1,h2⟩
  split at h2
  ·rename_i q
   obtain⟨q1,q2,q3⟩:=q
   simp only at q1 q2 q3
   subst q1
   exact⟨s,h1,q2,q3,bu h2⟩
  ·cases h2
 ·rintro ⟨s,h1,h2,h3,h4⟩
  exact⟨(s,true),h1,by rw[ay ⟨rfl,h2,h3⟩,h4]⟩
theorem abW{P:List (ll×Bool)}{k:Nat}{x:ll×Bool}(hx:P[k]? =some x):NK (P.take (k+1))=NK (P.take k)++if x.2=true/\x.1.1=4/\x.1.2.2.1≠[95]then [x.1.2.2.1]else []:=by
 unfold NK
 rw[aS,hx,List.filterMap_append]
 congr 1
 simp only[je,ku,List.filterMap_nil]
 split<;>split<;>simp_all
theorem WS(P:List (ll×Bool)):(NK P).length<=P.length:=List.length_filterMap_le _ _
end Edict
namespace Go.Proofs.Z
open Go Go.Ev Edict
def Lj(vs:List Value)(h:H)(K:Value->H->Prop):Prop:= ∃(u:U) (p:List kX) (v:Value),vs=[.agg #[v]]/\kM u h v p/\p.length<=512/\(∀c∈p,mH c)/\ ∀(c t o:Int) (u':U) (h':H),(c=0-> ∀x∈p,uz x)->kG S0 u h u' h'->K (.agg #[.int .i64 c,.int .i64 t,.int .i64 o]) h'
def Ry:mG:=λf vs h K _=>(f=59/\Ll vs h K)\/(f=40/\rz vs h K)
theorem IM:nz Tryz.prog Ry:=mK NM (qd oM)
theorem xE(b:Nat): ¬kN (.slice none 0 0) b:=fun⟨o,n,c,e⟩=>by cases e
theorem NL{vs:List Value}{h:H}{K:Value->H->Prop}{KP:List PanicEntry->H->Prop}(hC:Lj vs h K):ma Tryz.prog 22 vs h K KP:=by
 obtain⟨u,p,v,rfl,iv,hp,hfine,hK⟩:=hC
 refine kP 79228304259046398147430957047 [((some (.c1 (.ldn 3) (.t 2))),(.o1 (.ldn 3) (.t 2)))] IM Tryz.func22 (by kernel_rfl) (by conv=>lhs;cbv;try simp only[mF]) ?_
 obtain⟨va,vc,rfl,-,-⟩:=iv.sl
 obtain⟨h1,u1,hh1,zh1,p1,P1⟩:=kL u h [.slice va p.length vc] 87
 obtain⟨h2,u2,hh2,zh2,p2,R2⟩:=sJ u1 h1
 obtain⟨pb,hpb⟩:=kJ h.size
 obtain⟨rb,hrb⟩:=kJ h1.size
 rw[<-hpb]at P1
 rw[<-hrb]at R2
 have P11:=P1.1
 have hrb0:h.size<=rb:=by omega
 have out: ∀(u':U) (h':H) (x y z:Int),kG S0 u h u' h'->kV u' h' rb [.int .i64 0,.int .i64 0,.int .i64 0]->(x=0-> ∀c∈p,uz c)->kV u' (kU h' rb 0 [.int .i64 x,.int .i64 y,.int .i64 z]) rb [.int .i64 x,.int .i64 y,.int .i64 z]/\K (.agg #[.int .i64 x,.int .i64 y,.int .i64 z]) (kU h' rb 0 [.int .i64 x,.int .i64 y,.int .i64 z]):=λu' h' x y z st R hx=>
  tY _ _ _ st R hrb0 (λu' h' q=>hK x y z u' h' hx q)
 simp(disch:=first|omega|simp only[zz];try omega;done) only[↓reduceIte,go_sem]
 rw[<-hh1,<-hh2,<-hpb,show pb+1=rb by omega]
 obtain⟨I,hI⟩:=kJ (α:=Nat->lm->H->Prop) λk σ h'=> ∃(u':U),σ 2= .pointer (some ⟨rb,0,none⟩)/\σ 15= .slice va p.length vc/\σ 16= .int .i64 (p.length:Nat)/\σ 17= .int .i64 k/\k<=p.length/\kG S0 u h u' h'/\kV u' h' rb [.int .i64 0,.int .i64 0,.int .i64 0]/\ ∀x∈p.take k,uz x
 refine kH I (λj=>p.length - j) 0 (by rw[hI];exact⟨u2,by simp [kF],by simp [kF],by simp [kF],by simp [kF],by omega,p1.tZ p2,R2,λx q=>by simp at q⟩) ?_
 clear hh1 hh2 P1 P11 R2 p1 p2
 intro k σ h' hi
 rw[hI]at hi
 obtain⟨u',e2,e15,e16,e17,hk,st,R,hbk⟩:=hi
 have R1:=R.1
 by_cases hlt:k<p.length
 case neg=>
  rw[aK (by omega)]at hbk
  obtain⟨x1,hK'⟩:=out u' h' 0 0 0 st R (λ_=>hbk)
  have x11:=x1.1
  simp(disch:=first|omega|simp only[zz];try omega;done) only[↓reduceIte,go_sem,e2,e16,e17,au (show¬(k:Int)<(p.length:Nat) by omega),R.2.1,R.2.2.1,x1.at,x1.2.1]
  exact hK'
 obtain⟨x,hx⟩:=uu hlt
 have hxf:=hfine x (aI hx)
 obtain⟨qb,qo,rfl,hpb',hpu,hpz,hpr⟩:=(iv.mono st.ge).row k x hx
 rw[rE]at hpr
 obtain⟨xv,yv,hpr,ixv,iyv⟩:=hpr
 obtain⟨xa,xc,rfl,-,-⟩:=ixv.sl
 obtain⟨ya,yc,rfl,-,-⟩:=iyv.sl
 simp only[vo,uH,aG,aP]at hpr hpu hpz
 obtain⟨p0,p1',p2',p3'⟩:=hpr
 obtain⟨h5',h6,u6,hh5,hh6,B5,B6,s6,hz6⟩:=kZ u' h' [str [],.slice none 0 0,.int .i64 0,.slice none 0 0] [str x.1.1,.slice xa x.1.2.1.length xc,.int .i64 x.1.2.2,.slice ya x.2.length yc] 147 rfl
 have B51:=B5.1
 have B61:=B6.1
 simp(disch:=first|omega|simp only[zz];try omega;done) only[↓reduceIte,go_sem,e15,e16,e17,af (show(k:Int)<(p.length:Nat) by omega),p0,p1',p2',p3',<-hh5,<-hh6,B5.2.1,B5.2.2.1,B6.at,B6.2.1]
 refine kD (.inl ⟨rfl,u6,x,_,_,rfl,ixv.mono s6.ge,iyv.mono s6.ge,hxf,fun(u7:U) (h7:H) tv bv s7 it ib hPl=>⟨kY,?_⟩⟩)
 obtain⟨P,hP⟩:=kJ (qh x)
 rw[<-hP]at it ib hPl
 obtain⟨ta,tc,rfl,-,-⟩:=it.sl
 obtain⟨ba,bc,rfl,-,-⟩:=ib.sl
 rw[aQ]at*
 have R7:=(R.sZ s6).sZ s7
 have st7:=(st.tZ s6).tZ s7
 simp(disch:=first|omega|simp only[zz];try omega;done) only[↓reduceIte,go_sem]
 -- the first pass
 obtain⟨J,hJ⟩:=kJ (α:=Nat->lm->H->Prop) λj σ h''=> ∃(u'':U) (a b:Value) (A:List Nm),σ 2= .pointer (some ⟨rb,0,none⟩)/\σ 15= .slice (some ⟨qb,qo,none⟩) p.length vc/\σ 16= .int .i64 (p.length:Nat)/\σ 17= .int .i64 k/\σ 5= .slice ta P.length tc/\σ 6= .slice ba P.length bc/\σ 7=a/\σ 8=b/\σ 9= .int .i64 A.length/\σ 26= .slice ta P.length tc/\σ 27= .int .i64 (P.length:Nat)/\σ 28= .int .i64 j/\j<=P.length/\Ge u7 h7 u'' h''/\kG S0 u h u'' h''/\kV u'' h'' rb [.int .i64 0,.int .i64 0,.int .i64 0]/\ ¬kN a rb/\ ¬kN b rb/\mr h.size u'' h'' a A/\mr h.size u'' h'' b (NK (P.take j))/\(∀x,kN a x-> ¬kN b x)/\A.length<=16/\BK A ((P.drop j).map (·.1))=BK [] (P.map (·.1))
 refine kH J (λj=>P.length - j) 0 (by rw[hJ];exact⟨u7,.slice none 0 0,.slice none 0 0,[],by simp [kF,e2],by simp [kF,e15],by simp [kF,e16],by simp [kF,e17],by simp [kF],by simp [kF],by simp [kF],by simp [kF],by simp [kF],by simp [kF],by simp [kF],by simp [kF],by omega,Ge.refl _ _,st7,R7,xE _,xE _,.nil _ _ _,.nil _ _ _,λx q=>absurd q (xE x),by simp,by simp⟩) ?_
 intro j σ h'' hj
 rw[hJ]at hj
 obtain⟨u'',a,b,A,f2,f15,f16,f17,f5,f6,f7,f8,f9,f26,f27,f28,hj,gJ,stJ,RJ,na,nb,oa,ob,ap,hA,hall⟩:=hj
 have RJ1:=RJ.1
 by_cases hlj:j<P.length
 case neg=>
  rw[aK (by omega)]at ob
  rw[dJ (by omega),cu,BK]at hall
  have hBl:=WS P
  obtain⟨B,hB⟩:=kJ (NK P)
  rw[<-hB]at ob hBl
  obtain⟨b9,d9,rfl,-,-⟩:=ob.sl
  simp(disch:=first|omega|simp only[zz];try omega;done) only[↓reduceIte,go_sem,f5,f27,f28,au (show¬(j:Int)<(P.length:Nat) by omega)]
  obtain⟨M,hM⟩:=kJ (α:=Nat->lm->H->Prop) λj σ h3=> ∃(u3:U),σ 2= .pointer (some ⟨rb,0,none⟩)/\σ 15= .slice (some ⟨qb,qo,none⟩) p.length vc/\σ 16= .int .i64 (p.length:Nat)/\σ 17= .int .i64 k/\σ 6= .slice ba P.length bc/\σ 8= .slice b9 B.length d9/\σ 73= .slice ta P.length tc/\σ 74= .int .i64 (P.length:Nat)/\σ 75= .int .i64 j/\j<=P.length/\Ge u'' h'' u3 h3/\kG S0 u h u3 h3/\kV u3 h3 rb [.int .i64 0,.int .i64 0,.int .i64 0]/\ ∀t,(t,false)∈P.take j->t.1=4->t.2.2.1∈B
  refine kH M (λj=>P.length - j) 0 (by rw[hM];exact⟨u'',by simp [kF,f2],by simp [kF,f15],by simp [kF,f16],by simp [kF,f17],by simp [kF,f6],by simp [kF,f8],by simp [kF],by simp [kF],by simp [kF],by omega,Ge.refl _ _,stJ,RJ,λt q=>by simp at q⟩) ?_
  intro m σ h3 hm
  rw[hM]at hm
  obtain⟨u3,g2,g15,g16,g17,g6,g8,g73,g74,g75,hm,gM,stM,RM,hbm⟩:=hm
  have RM1:=RM.1
  by_cases hlm:m<P.length
  case neg=>
   rw[aK (by omega)]at hbm
   simp(disch:=first|omega|simp only[zz];try omega;done) only[↓reduceIte,go_sem,g17,g74,g75,au (show¬(m:Int)<(P.length:Nat) by omega)]
   refine⟨k+1,?_,by omega⟩
   rw[hI]
   refine⟨u3,by simp [kF,g2],by simp [kF,g15],by simp [kF,g16],by simp [kF],hlt,stM,RM,λz hz=> ?_⟩
   rw[aS,hx]at hz
   rcases bG.1 hz with hz|hz
   ·exact hbk z hz
   ·have:z=x:=by simpa using hz
    rw[this]
    refine⟨by rw[<-hP,<-hall];exact hA,λt ht h4=> ?_⟩
    rw[<-hP]at ht ⊢
    have:=hbm t ht h4
    rw[hB]at this
    exact ad5.1 this
  obtain⟨⟨y,yb⟩,hy⟩: ∃y,P[m]? =some y:=⟨P[m],by simp [hlm]⟩
  obtain⟨tb,to,rfl,hqb,hqu,hqz,hqr⟩:=((it.mono gJ).mono gM).row m y (by rw[aR,hy];rfl)
  rw[mV]at hqr
  simp only[lW,uR,uH,aG,aP]at hqr hqu hqz
  obtain⟨q0,q1,q2,q3⟩:=hqr
  obtain⟨sb,so,rfl,hsb,hsu,hs9,hsr⟩:=((ib.mono gJ).mono gM).row m yb (by rw[aR,hy];rfl)
  rw[vE]at hsr
  simp only[CJ,oV,aG,aP]at hsr hsu hs9
  obtain⟨hB',hBh,uB,hhB',hhB,BB',BB,sB,hzB⟩:=kZ u3 h3 [.int .i64 0,.int .i64 0,str [],.int .i64 0] (lW y) 98 rfl
  simp only[lW]at hhB BB
  obtain⟨xb,hxb⟩:=kJ h3.size
  rw[<-hxb]at BB BB' hhB
  have BB1:=BB.1
  have BB'1:=BB'.1
  have RB:=RM.sZ sB
  have RB1:=RB.1
  have stB:=stM.tZ sB
  have obB:=((ob.iZ.mono gM).mono sB.ge)
  have sbB:Go.Ev.hv hBh sb (so+m*1)= .bool yb:=by rw[<-hsr];exact sB.ge.cl _ hsb _ (by omega)
  have lzB:so+m*1<hsz hBh sb:=by rw[(sB.ge.hs _ hsb).1];omega
  have fin:((y,yb)=(y,false)->y.1=4->y.2.2.1∈B)-> ∀t,(t,false)∈P.take (m+1)->t.1=4->t.2.2.1∈B:=λq t ht h4=>by
   rw[aS,hy]at ht
   rcases bG.1 ht with ht|ht
   ·exact hbm t ht h4
   ·have ht:(t,false)=(y,yb):=by simpa using ht
    cases ht
    exact q rfl h4
  rcases dG (y.1=4/\yb=false)with hc|hc
  ·obtain⟨h4,rfl⟩:=hc
   simp(disch:=first|omega|simp only[zz];try omega;done) only[↓reduceIte,go_sem,g6,g8,g73,g74,g75,af (show(m:Int)<(P.length:Nat) by omega),q0,q1,q2,q3,<-hxb,<-hhB',<-hhB,BB'.2.1,BB'.2.2.1,BB.at,BB.2.1,sbB,af lzB,af h4]
   refine kD (.inr ⟨rfl,uB,_,B,y.2.2.1,rfl,obB,by omega,⟨kY,?_⟩⟩)
   by_cases hmB:y.2.2.1∈B
   ·obtain⟨i,i1,-,-⟩:=oN hmB
    rw[i1]
    simp(disch:=first|omega|simp only[zz];try omega;done) only[↓reduceIte,go_sem,g75,au (show¬(i:Int)<0 by omega)]
    refine⟨m+1,?_,by omega⟩
    rw[hM]
    exact⟨uB,by simp [kF,g2],by simp [kF,g15],by simp [kF,g16],by simp [kF,g17],by simp [kF,g6],by simp [kF,g8],by simp [kF,g73],by simp [kF,g74],by simp [kF],hlm,gM.trans sB.ge,stB,RB,fin λ_ _=>hmB⟩
   ·rw[uW hmB]
    obtain⟨x1,hK'⟩:=out uB hBh 33 0 y.2.2.2 stB RB (λq=>by cases q)
    have x11:=x1.1
    simp(disch:=first|omega|simp only[zz];try omega;done) only[↓reduceIte,go_sem,BB.at,BB.2.1,g2,RB.2.1,RB.2.2.1,x1.at,x1.2.1]
    exact hK'
  ·have hf:=fin λe h4=>absurd ⟨h4,by cases e;rfl⟩ hc
   rcases dG (y.1=4)with h4|h4
   all_goals
    first
     |simp(disch:=first|omega|simp only[zz];try omega;done) only[↓reduceIte,go_sem,g6,g73,g74,g75,af (show(m:Int)<(P.length:Nat) by omega),q0,q1,q2,q3,<-hxb,<-hhB',<-hhB,BB'.2.1,BB'.2.2.1,BB.at,BB.2.1,sbB,au h4]
     |(have hy1:yb=true:=by cases yb;exact absurd ⟨h4,rfl⟩ hc;rfl
       subst hy1
       simp(disch:=first|omega|simp only[zz];try omega;done) only[↓reduceIte,go_sem,g6,g73,g74,g75,af (show(m:Int)<(P.length:Nat) by omega),q0,q1,q2,q3,<-hxb,<-hhB',<-hhB,BB'.2.1,BB'.2.2.1,BB.at,BB.2.1,sbB,af lzB,af h4])
    refine⟨m+1,?_,by omega⟩
    rw[hM]
    exact⟨uB,by simp [kF,g2],by simp [kF,g15],by simp [kF,g16],by simp [kF,g17],by simp [kF,g6],by simp [kF,g8],by simp [kF,g73],by simp [kF,g74],by simp [kF],hlm,gM.trans sB.ge,stB,RB,hf⟩
 obtain⟨⟨y,yb⟩,hy⟩: ∃y,P[j]? =some y:=⟨P[j],by simp [hlj]⟩
 have hsn:=abW hy
 simp only at hsn
 have hBl:=WS (P.take j)
 rw[aT]at hBl
 obtain⟨B,hB⟩:=kJ (NK (P.take j))
 rw[<-hB]at hsn ob hBl
 have hdr:P.drop j=(y,yb)::P.drop (j+1):=by
  rw[bK hlj];congr 1;rw[aL hlj]at hy;exact bu hy
 rw[hdr,bF,BK]at hall
 simp only at hall
 obtain⟨tb,to,rfl,hqb,hqu,hqz,hqr⟩:=(it.mono gJ).row j y (by rw[aR,hy];rfl)
 rw[mV]at hqr
 simp only[lW,uR,uH,aG,aP]at hqr hqu hqz
 obtain⟨q0,q1,q2,q3⟩:=hqr
 obtain⟨sb,so,rfl,hsb,hsu,hs9,hsr⟩:=(ib.mono gJ).row j yb (by rw[aR,hy];rfl)
 rw[vE]at hsr
 simp only[CJ,oV,aG,aP]at hsr hsu hs9
 obtain⟨hB',hBh,uB,hhB',hhB,BB',BB,sB,hzB⟩:=kZ u'' h'' [.int .i64 0,.int .i64 0,str [],.int .i64 0] (lW y) 98 rfl
 simp only[lW]at hhB BB
 obtain⟨xb,hxb⟩:=kJ h''.size
 rw[<-hxb]at BB BB' hhB
 have BB1:=BB.1
 have BB'1:=BB'.1
 have RB:=RJ.sZ sB
 have stB:=stJ.tZ sB
 have oaB:=oa.sZ sB
 have obB:=ob.sZ sB
 have zB:=stB.ge.sz
 have sbB:Go.Ev.hv hBh sb (so+j*1)= .bool yb:=by rw[<-hsr];exact sB.ge.cl _ hsb _ (by omega)
 have lzB:so+j*1<hsz hBh sb:=by rw[(sB.ge.hs _ hsb).1];omega
 obtain⟨a9,c9,rfl,-,-⟩:=oaB.sl
 obtain⟨b9,d9,rfl,-,-⟩:=obB.sl
 have nax: ¬kN (.slice a9 A.length c9) xb:=λq=>by have:=oa.lt q;omega
 have nbx: ¬kN (.slice b9 B.length d9) xb:=λq=>by have:=ob.lt q;omega
 have gB:=gJ.trans sB.ge
 by_cases h4:y.1=4
 case neg=>
  rw[ah h4]at hall
  rw[ah (λq=>h4 q.2.1),dU]at hsn
  simp(disch:=first|omega|simp only[zz];try omega;done) only[↓reduceIte,go_sem,f26,f27,f28,af (show(j:Int)<(P.length:Nat) by omega),q0,q1,q2,q3,<-hxb,<-hhB',<-hhB,BB'.2.1,BB'.2.2.1,BB.at,BB.2.1,au h4]
  refine⟨j+1,?_,by omega⟩
  rw[hJ]
  exact⟨uB,_,_,A,by simp [kF,f2],by simp [kF,f15],by simp [kF,f16],by simp [kF,f17],by simp [kF,f5],by simp [kF,f6],by simp [kF,f7],by simp [kF,f8],by simp [kF,f9],by simp [kF,f26],by simp [kF,f27],by simp [kF],hlj,gB,stB,RB,na,nb,oaB,by rw[hsn];exact obB,ap,hA,hall⟩
 rw[ay h4]at hall
 by_cases hin:y.2.2.1≠[95]/\y.2.2.1∈A
 ·obtain⟨h9,hm⟩:=hin
  rw[ah (by rintro (q|q);exact h9 q;exact q hm)]at hall
  obtain⟨i,i1,-,-⟩:=oN hm
  simp(disch:=first|omega|simp only[zz];try omega;done) only[↓reduceIte,go_sem,f7,f26,f27,f28,af (show(j:Int)<(P.length:Nat) by omega),q0,q1,q2,q3,<-hxb,<-hhB',<-hhB,BB'.2.1,BB'.2.2.1,BB.at,BB.2.1,af h4,au h9]
  refine kD (.inr ⟨rfl,uB,_,A,y.2.2.1,rfl,oaB.iZ,by omega,⟨kY,?_⟩⟩)
  rw[i1]
  rcases dG (yb=true)with hy1|hy1
  ·subst hy1
   rw[ay ⟨rfl,h4,h9⟩]at hsn
   simp(disch:=first|omega|simp only[zz];try omega;done) only[↓reduceIte,go_sem,BB.at,BB.2.1,sbB,af lzB,f6,hlj,au (show¬(i:Int)<0 by omega),au h9,f8]
   refine kK (by simp only[]) obB (x:=y.2.2.1) (by rw[nu]) rfl rfl zB (by omega) λaD nD cD uD hD oD sD hOD=>⟨kY,?_⟩
   have stD:=stB.own sD λb q=>obB.ge q
   have RD:=RB.step sD nb
   have oaD:=oaB.step sD (λb q q'=>ap b q q')
   have nbD: ¬kN (.slice aD nD cD) rb:=λq=>by
    rcases hOD _ q with q|q
    ·exact nb q
    ·have:=RB.1;omega
   simp(disch:=first|omega|simp only[zz];try omega;done) only[↓reduceIte,go_sem,f28]
   refine⟨j+1,?_,by omega⟩
   rw[hJ]
   exact⟨uD,_,.slice aD nD cD,A,by simp [kF,f2],by simp [kF,f15],by simp [kF,f16],by simp [kF,f17],by simp [kF,f5],by simp [kF,f6],by simp [kF,f7],by simp [kF],by simp [kF,f9],by simp [kF,f26],by simp [kF,f27],by simp [kF],hlj,gB.trans sD.ge,stD,RD,na,nbD,oaD,by rw[hsn];exact oD,λx q q'=>by
    rcases hOD _ q' with q'|q'
    ·exact ap x q q'
    ·have:=oaB.lt q;omega,hA,hall⟩
  ·have hy0:yb=false:=by simpa using hy1
   subst hy0
   rw[ah (λq=>by cases q.1),dU]at hsn
   simp(disch:=first|omega|simp only[zz];try omega;done) only[↓reduceIte,go_sem,BB.at,sbB,af lzB,f6,hlj,au (show¬(i:Int)<0 by omega),f28]
   refine⟨j+1,?_,by omega⟩
   rw[hJ]
   exact⟨uB,_,_,A,by simp [kF,f2],by simp [kF,f15],by simp [kF,f16],by simp [kF,f17],by simp [kF,f5],by simp [kF,f6],by simp [kF,f7],by simp [kF,f8],by simp [kF,f9],by simp [kF,f26],by simp [kF,f27],by simp [kF],hlj,gB,stB,RB,na,nb,oaB,by rw[hsn];exact obB,ap,hA,hall⟩
 -- a variable more
 have hadd:y.2.2.1=[95]\/y.2.2.1 ∉ A:=by
  by_cases q:y.2.2.1=[95]
  ·exact .inl q
  ·exact .inr λq2=>hin ⟨q,q2⟩
 rw[ay hadd]at hall
 rcases dG (y.2.2.1=[95])with h9|h9
 all_goals
  first
   |(rw[ah (λq=>q.2.2 h9),dU]at hsn
     by_cases h17:A.length=16
     ·obtain⟨x1,hK'⟩:=out uB hBh 32 0 y.2.2.2 stB RB (λq=>by cases q)
      have x11:=x1.1
      have RB1:=RB.1
      simp(disch:=first|omega|simp only[zz];try omega;done) only[↓reduceIte,go_sem,f7,f26,f27,f28,af (show(j:Int)<(P.length:Nat) by omega),q0,q1,q2,q3,<-hxb,<-hhB',<-hhB,BB'.2.1,BB'.2.2.1,BB.at,BB.2.1,af h4,af h9,f9,af (show(16:Int)<(A.length:Int)+1 by omega),f2,RB.2.1,RB.2.2.1,x1.at,x1.2.1]
      exact hK'
     simp(disch:=first|omega|simp only[zz];try omega;done) only[↓reduceIte,go_sem,f26,f27,f28,af (show(j:Int)<(P.length:Nat) by omega),q0,q1,q2,q3,<-hxb,<-hhB',<-hhB,BB'.2.1,BB'.2.2.1,BB.at,BB.2.1,af h4,af h9,f9,au (show¬(16:Int)<(A.length:Int)+1 by omega),f7])
   |(have hm:=hadd.resolve_left h9
     simp(disch:=first|omega|simp only[zz];try omega;done) only[↓reduceIte,go_sem,f7,f26,f27,f28,af (show(j:Int)<(P.length:Nat) by omega),q0,q1,q2,q3,<-hxb,<-hhB',<-hhB,BB'.2.1,BB'.2.2.1,BB.at,BB.2.1,af h4,au h9]
     refine kD (.inr ⟨rfl,uB,_,A,y.2.2.1,rfl,oaB.iZ,by omega,⟨kY,?_⟩⟩)
     rw[uW hm]
     by_cases h17:A.length=16
     ·obtain⟨x1,hK'⟩:=out uB hBh 32 0 y.2.2.2 stB RB (λq=>by cases q)
      have x11:=x1.1
      have RB1:=RB.1
      simp(disch:=first|omega|simp only[zz];try omega;done) only[↓reduceIte,go_sem,BB.at,BB.2.1,f9,af (show(16:Int)<(A.length:Int)+1 by omega),f2,RB.2.1,RB.2.2.1,x1.at,x1.2.1]
      exact hK'
     simp(disch:=first|omega|simp only[zz];try omega;done) only[↓reduceIte,go_sem,BB.at,BB.2.1,f9,au (show¬(16:Int)<(A.length:Int)+1 by omega),f7])
  refine kK (by simp only[]) oaB (x:=y.2.2.1) (by rw[nu]) rfl rfl zB (by omega) λaC nC cC uC hC oC sC hOC=>⟨kY,?_⟩
  obtain⟨A2,hA2⟩:=kJ (A++[y.2.2.1])
  have hA2l:A2.length=A.length+1:=by rw[hA2];simp
  rw[<-hA2]at oC hall
  obtain⟨_,_,hme,-,-⟩:=oC.sl
  simp only[Value.slice.injEq]at hme
  obtain⟨rfl,rfl,rfl⟩:=hme
  have stC:=stB.own sC λb q=>oaB.ge q
  have BC:=BB.step sC nax
  have RC:=RB.step sC na
  have obC:=obB.step sC (λb q q'=>ap b q' q)
  have BC1:=BC.1
  have RC1:=RC.1
  have gC:=gB.trans sC.ge
  have sbC:Go.Ev.hv hC sb (so+j*1)= .bool yb:=by rw[<-sbB];exact sC.ge.cl _ (by have:=sB.ge.sz;omega) _ (by have:=sB.ge.up sb hsb;omega)
  have lzC:so+j*1<hsz hC sb:=by rw[(sC.ge.hs _ (by have:=sB.ge.sz;omega)).1];exact lzB
  have naC: ¬kN (.slice aC A2.length cC) rb:=λq=>by
   rcases hOC _ q with q|q
   ·exact na q
   ·have:=RB.1;omega
  have apC: ∀x,kN (.slice aC A2.length cC) x-> ¬kN (.slice b9 B.length d9) x:=λx q q'=>by
   rcases hOC _ q with q|q
   ·exact ap x q q'
   ·have:=obB.lt q';omega
  have hA16:A2.length<=16:=by omega
  have e9:(A.length:Int)+1=(A2.length:Int):=by omega
  first
   |(simp(disch:=first|omega|simp only[zz];try omega;done) only[↓reduceIte,go_sem,BC.at,BC.2.1,sbC,af lzC,f6,hlj,f28,af h9,e9]
     refine⟨j+1,?_,by omega⟩
     rw[hJ]
     exact⟨uC,.slice aC A2.length cC,_,A2,by simp [kF,f2],by simp [kF,f15],by simp [kF,f16],by simp [kF,f17],by simp [kF,f5],by simp [kF,f6],by simp [kF],by simp [kF,f8],by simp [kF],by simp [kF,f26],by simp [kF,f27],by simp [kF],hlj,gC,stC,RC,naC,nb,oC,by rw[hsn];exact obC,apC,hA16,hall⟩)
   |(rcases dG (yb=true)with hy1|hy1
     ·subst hy1
      rw[ay ⟨rfl,h4,h9⟩]at hsn
      simp(disch:=first|omega|simp only[zz];try omega;done) only[↓reduceIte,go_sem,BC.at,BC.2.1,sbC,af lzC,f6,hlj,au h9,e9,f8]
      refine kK (by simp only[]) obC (x:=y.2.2.1) (by rw[nu]) rfl rfl (by have:=stC.ge.sz;exact this) (by omega) λaD nD cD uD hD oD sD hOD=>⟨kY,?_⟩
      have stD:=stC.own sD λb q=>obC.ge q
      have RD:=RC.step sD nb
      have oaD:=oC.step sD (λb q q'=>apC b q q')
      have nbD: ¬kN (.slice aD nD cD) rb:=λq=>by
       rcases hOD _ q with q|q
       ·exact nb q
       ·have:=RC.1;omega
      simp(disch:=first|omega|simp only[zz];try omega;done) only[↓reduceIte,go_sem,f28]
      refine⟨j+1,?_,by omega⟩
      rw[hJ]
      exact⟨uD,.slice aC A2.length cC,.slice aD nD cD,A2,by simp [kF,f2],by simp [kF,f15],by simp [kF,f16],by simp [kF,f17],by simp [kF,f5],by simp [kF,f6],by simp [kF],by simp [kF],by simp [kF],by simp [kF,f26],by simp [kF,f27],by simp [kF],hlj,gC.trans sD.ge,stD,RD,naC,nbD,oaD,by rw[hsn];exact oD,λx q q'=>by
       rcases hOD _ q' with q'|q'
       ·exact apC x q q'
       ·have:=oC.lt q;omega,hA16,hall⟩
     ·have hy0:yb=false:=by simpa using hy1
      subst hy0
      rw[ah (λq=>by cases q.1),dU]at hsn
      simp(disch:=first|omega|simp only[zz];try omega;done) only[↓reduceIte,go_sem,BC.at,sbC,af lzC,f6,hlj,f28,e9]
      refine⟨j+1,?_,by omega⟩
      rw[hJ]
      exact⟨uC,.slice aC A2.length cC,_,A2,by simp [kF,f2],by simp [kF,f15],by simp [kF,f16],by simp [kF,f17],by simp [kF,f5],by simp [kF,f6],by simp [kF],by simp [kF,f8],by simp [kF],by simp [kF,f26],by simp [kF,f27],by simp [kF],hlj,gC,stC,RC,naC,nb,oC,by rw[hsn];exact obC,apC,hA16,hall⟩)
end Go.Proofs.Z
namespace Edict
variable {p:List kX} {S:List Nm} {a n:Nm}
def ad4(p:List kX):List Nm:=p.flatMap λc=>c.2.map λl=>l.2.1.1
structure Sd (p:List kX) (a:Nm) (S:List Nm):Prop where
 nd:S.Nodup
 ha:a∈S
 sub: ∀z∈S,z∈a::ad4 p
def Cl(p:List kX)(b:Nm)(S:List Nm)(i:Nat):Prop:= ∀z∈S.take i,z≠b/\ ∀y,Dep p z y->y∈S
theorem Sd.len(h:Sd p a S)(hp:p.length<=512)(h16: ∀c∈p,c.2.length<=16):S.length<=8193:=by
 have h1:=CS h.nd h.sub
 have h2:(ad4 p).length<=16*p.length:=zu λc hc=>by rw[aQ];exact h16 c hc
 rw[aM]at h1
 omega
theorem Sd.add(h:Sd p a S)(hn:n ∉ S)(hs:n∈ad4 p):Sd p a (S++[n]):=by
 refine⟨?_,by simp [h.ha],λz hz=> ?_⟩
 ·rw[fB]
  exact⟨h.nd,by simp,λx hx y hy e=>hn (by rw[<-bJ.1 hy,<-e];exact hx)⟩
 ·rcases bG.1 hz with hz|hz
  ·exact h.sub z hz
  ·rw[bJ.1 hz];exact dI _ hs
theorem Cl.add{b:Nm}{i:Nat}(h:Cl p b S i)(hi:i<=S.length):Cl p b (S++[n]) i:=λz hz=>by
 rw[dH hi]at hz
 exact⟨(h z hz).1,λy q=>di _ ((h z hz).2 y q)⟩
end Edict
namespace Go.Proofs.Z
open Go Go.Ev Edict
def WR(vs:List Value)(h:H)(K:Value->H->Prop):Prop:= ∃(u:U) (p:List kX) (v:Value) (a b:Nm),vs=[.agg #[v],str a,str b]/\kM u h v p/\p.length<=512/\(∀c∈p,c.2.length<=16)/\ ∀(r:Bool) (u':U) (h':H),(r=false-> ¬Hang p a b)->kG S0 u h u' h'->K (.bool r) h'
def YQ:mG:=λf vs h K _=>f=40/\rz vs h K
theorem NJ:nz Tryz.prog YQ:=qd oM
theorem UW{vs:List Value}{h:H}{K:Value->H->Prop}{KP:List PanicEntry->H->Prop}(hC:WR vs h K):ma Tryz.prog 60 vs h K KP:=by
 obtain⟨u,p,v,a,b,rfl,iv,hp,h16,hK⟩:=hC
 refine kP 576594896815920591 [(none,(.t 6))] NJ Tryz.func60 (by kernel_rfl) (by conv=>lhs;cbv;try simp only[mF]) ?_
 obtain⟨va,vc,rfl,-,-⟩:=iv.sl
 obtain⟨h1,u1,hh1,zh1,p1,P1⟩:=kL u h [.slice va p.length vc] 87
 obtain⟨pb,hpb⟩:=kJ h.size
 rw[<-hpb]at P1
 have P11:=P1.1
 have o2:=mr.made (k:=h.size) (α:=Nm) u1 h1 (by omega) 9 [a] [str a] rfl (by simp only[bz];decide) (λi y hy=>by
  match i,hy with
  |0,hy=>cases hy;rw[nu];rfl
  |i+1,hy=>simp at hy)
 have p2:=kG.push S0 u1 h1 #[str a] 9 (1*Rep.sz Nm)
 obtain⟨h2,hh2⟩:=kJ (h1.push (.cells #[str a] 9))
 obtain⟨u2,hu2⟩:=kJ (ub u1 h1.size (1*Rep.sz Nm))
 rw[<-hh2,<-hu2]at p2
 have o2:mr h.size u2 h2 (.slice (some ⟨h1.size,0,none⟩) 1 1) [a]:=by rw[hh2,hu2];exact o2
 have P2:=P1.sZ p2
 have st2:=p1.tZ p2
 simp(disch:=first|omega|simp only[zz];try omega;done) only[↓reduceIte,go_sem]
 rw[<-hh1,<-hh2,<-hpb,show pb+1=h1.size by omega]
 obtain⟨I,hI⟩:=kJ (α:=Nat->lm->H->Prop) λi σ h'=> ∃(u':U) (w:Value) (S:List Nm),σ 2=str b/\σ 3= .pointer (some ⟨pb,0,none⟩)/\σ 7=w/\σ 8= .int .i64 i/\i<=S.length/\kG S0 u h u' h'/\kV u' h' pb [.slice va p.length vc]/\ ¬kN w pb/\mr h.size u' h' w S/\Sd p a S/\Cl p b S i
 refine kH I (λi=>8193 - i) 0 (by rw[hI];exact⟨u2,_,[a],by simp [kF],by simp [kF],by simp [kF],by simp [kF],by omega,st2,P2,fun⟨o,n,c,e⟩=>by cases e;omega,o2,⟨by simp,by simp,λz hz=>by rw[bJ.1 hz];simp⟩,λz hz=>by simp at hz⟩) ?_
 clear hh1 hh2 P2 P1 P11 o2 st2 p1 p2 hu2
 intro i σ h' hi
 rw[hI]at hi
 obtain⟨u',w,S,e2,e3,e7,e8,hi,st,P,nw,ow,sd,cl⟩:=hi
 have P1:=P.1
 have hSl:=sd.len hp h16
 obtain⟨wa,wc,rfl,-,-⟩:=ow.sl
 by_cases hlt:i<S.length
 case neg=>
  simp(disch:=first|omega|simp only[zz];try omega;done) only[↓reduceIte,go_sem,e7,e8,au (show¬(i:Int)<(S.length:Nat) by omega)]
  refine hK false _ _ (λ_ q=> ?_) st
  have hS:S.take i=S:=aK (by omega)
  unfold Cl at cl
  rw[hS]at cl
  exact(cl b (Sc sd.ha (λx hx y hy=>(cl x hx).2 y hy) q)).1 rfl
 obtain⟨x,hx⟩:=uu hlt
 have row: ∀{u':U} {h':H} {w:Value} {S:List Nm},mr h.size u' h' w S->S[i]? =some x-> ∃xb xo c,w= .slice (some ⟨xb,xo,none⟩) S.length c/\xb<h'.size/\Go.Ev.hv h' xb (xo+i*1)=str x/\xo+i*1<hsz h' xb:=λow hx=>by
  obtain⟨wa,wc,e,-,-⟩:=ow.sl
  subst e
  obtain⟨xb,xo,rfl,hq1,hq2,hq3,hq4⟩:=ow.iZ.row i x hx
  rw[nu]at hq4
  simp only[FQ,oV,aG,aP]at hq2 hq3 hq4
  exact⟨xb,xo,wc,rfl,hq1,hq4,by omega⟩
 obtain⟨xb,xo,_,hw,hxb,Df,Tc⟩:=row ow hx
 simp only[Value.slice.injEq,dN]at hw
 obtain⟨rfl,rfl⟩:=hw
 by_cases hxe:x=b
 ·simp(disch:=first|omega|simp only[zz];try omega;done) only[↓reduceIte,go_sem,e2,e7,e8,af (show(i:Int)<(S.length:Nat) by omega),Df,af Tc,af hxe]
  exact hK true _ _ (λq=>by cases q) st
 simp(disch:=first|omega|simp only[zz];try omega;done) only[↓reduceIte,go_sem,e2,e3,e7,e8,af (show(i:Int)<(S.length:Nat) by omega),Df,af Tc,au hxe,P.at,P.2.1]
 -- the clauses
 obtain⟨J,hJ⟩:=kJ (α:=Nat->lm->H->Prop) λk σ h''=> ∃(u'':U) (w:Value) (S:List Nm),σ 2=str b/\σ 3= .pointer (some ⟨pb,0,none⟩)/\σ 7=w/\σ 8= .int .i64 i/\σ 28= .slice va p.length vc/\σ 29= .int .i64 (p.length:Nat)/\σ 30= .int .i64 k/\k<=p.length/\i<S.length/\S[i]? =some x/\Ge u' h' u'' h''/\kG S0 u h u'' h''/\kV u'' h'' pb [.slice va p.length vc]/\ ¬kN w pb/\mr h.size u'' h'' w S/\Sd p a S/\Cl p b S i/\ ∀c∈p.take k,c.1.1=x-> ∀l∈c.2,l.1≠3->l.2.1.1∈S
 refine kH J (λk=>p.length - k) 0 (by rw[hJ];exact⟨u',_,S,by simp [kF,e2],by simp [kF,e3],by simp [kF,e7],by simp [kF,e8],by simp [kF],by simp [kF],by simp [kF],by omega,hlt,hx,Ge.refl _ _,st,P,nw,ow,sd,cl,λc hc=>by simp at hc⟩) ?_
 clear e2 e3 e7 e8 Df Tc row P1 sd cl hSl ow nw hlt hx
 intro k σ h'' hj
 rw[hJ]at hj
 obtain⟨u'',w,S,e2,e3,e7,e8,e28,e29,e30,hk,hlt,hx,gJ,stJ,PJ,nw,ow,sd,cl,hcl⟩:=hj
 have PJ1:=PJ.1
 have hSl:=sd.len hp h16
 by_cases hkp:k<p.length
 case neg=>
  rw[aK (by omega)]at hcl
  simp(disch:=first|omega|simp only[zz];try omega;done) only[↓reduceIte,go_sem,e8,e29,e30,au (show¬(k:Int)<(p.length:Nat) by omega)]
  refine⟨i+1,?_,by omega⟩
  rw[hI]
  refine⟨u'',w,S,by simp [kF,e2],by simp [kF,e3],by simp [kF,e7],by simp [kF],hlt,stJ,PJ,nw,ow,sd,λz hz=> ?_⟩
  rw[aS,hx]at hz
  rcases bG.1 hz with hz|hz
  ·exact cl z hz
  ·have hz:z=x:=by simpa using hz
   rw[hz]
   exact⟨hxe,λy ⟨c,c1,c2,l,l1,l2,l3⟩=>by rw[<-l3];exact hcl c c1 c2 l l1 l2⟩
 obtain⟨y,hy⟩:=uu hkp
 obtain⟨qb,qo,rfl,hqb,hpu,hpz,hpr⟩:=(iv.mono stJ.ge).row k y hy
 rw[rE]at hpr
 obtain⟨xv,yv,hpr,ixv,iyv⟩:=hpr
 obtain⟨xa,xc,rfl,-,-⟩:=ixv.sl
 obtain⟨ya,yc,rfl,-,-⟩:=iyv.sl
 simp only[vo,uH,aG,aP]at hpr hpu hpz
 obtain⟨p0,p1',p2',p3'⟩:=hpr
 obtain⟨h5',h6,u6,hh5,hh6,B5,B6,s6,hz6⟩:=kZ u'' h'' [str [],.slice none 0 0,.int .i64 0,.slice none 0 0] [str y.1.1,.slice xa y.1.2.1.length xc,.int .i64 y.1.2.2,.slice ya y.2.length yc] 147 rfl
 have B51:=B5.1
 have B61:=B6.1
 have o6:=ow.sZ s6
 have P6:=PJ.sZ s6
 have st6:=stJ.tZ s6
 obtain⟨wa,wc,rfl,-,-⟩:=ow.sl
 obtain⟨xb,xo,_,hw,hxb,Df,Tc⟩: ∃xb xo c,(.slice wa S.length wc:Value)= .slice (some ⟨xb,xo,none⟩) S.length c/\xb<h6.size/\Go.Ev.hv h6 xb (xo+i*1)=str x/\xo+i*1<Go.Ev.hsz h6 xb:=by
  obtain⟨xb,xo,rfl,hq1,hq2,hq3,hq4⟩:=o6.iZ.row i x hx
  rw[nu]at hq4
  simp only[FQ,oV,aG,aP]at hq2 hq3 hq4
  exact⟨xb,xo,_,rfl,hq1,hq4,by omega⟩
 simp only[Value.slice.injEq,dN]at hw
 obtain⟨rfl,rfl⟩:=hw
 by_cases hyx:y.1.1=x
 case neg=>
  simp(disch:=first|omega|simp only[zz];try omega;done) only[↓reduceIte,go_sem,e7,e8,e28,e29,e30,af (show(k:Int)<(p.length:Nat) by omega),p0,p1',p2',p3',<-hh5,<-hh6,B5.2.1,B5.2.2.1,B6.at,B6.2.1,af hlt,Df,af Tc,au hyx]
  refine⟨k+1,?_,by omega⟩
  rw[hJ]
  refine⟨u6,_,S,by simp [kF,e2],by simp [kF,e3],by simp [kF,e7],by simp [kF,e8],by simp [kF,e28],by simp [kF,e29],by simp [kF],hkp,hlt,hx,gJ.trans s6.ge,st6,P6,nw,o6,sd,cl,λc hc hcx=> ?_⟩
  rw[aS,hy]at hc
  rcases bG.1 hc with hc|hc
  ·exact hcl c hc hcx
  ·have hc:c=y:=by simpa using hc
   rw[hc]at hcx;exact absurd hcx hyx
 have hy16:=h16 y (aI hy)
 simp(disch:=first|omega|simp only[zz];try omega;done) only[↓reduceIte,go_sem,e7,e8,e28,e29,e30,af (show(k:Int)<(p.length:Nat) by omega),p0,p1',p2',p3',<-hh5,<-hh6,B5.2.1,B5.2.2.1,B6.at,B6.2.1,af hlt,Df,af Tc,af hyx]
 have iy6:=iyv.mono s6.ge
 -- the literals
 obtain⟨M,hM⟩:=kJ (α:=Nat->lm->H->Prop) λm σ h3=> ∃(u3:U) (w:Value) (S:List Nm),σ 2=str b/\σ 3= .pointer (some ⟨pb,0,none⟩)/\σ 7=w/\σ 8= .int .i64 i/\σ 28= .slice (some ⟨qb,qo,none⟩) p.length vc/\σ 29= .int .i64 (p.length:Nat)/\σ 30= .int .i64 k/\σ 43= .slice ya y.2.length yc/\σ 44= .int .i64 (y.2.length:Nat)/\σ 45= .int .i64 m/\m<=y.2.length/\i<S.length/\S[i]? =some x/\Ge u6 h6 u3 h3/\kG S0 u h u3 h3/\kV u3 h3 pb [.slice (some ⟨qb,qo,none⟩) p.length vc]/\ ¬kN w pb/\mr h.size u3 h3 w S/\Sd p a S/\Cl p b S i/\(∀c∈p.take k,c.1.1=x-> ∀l∈c.2,l.1≠3->l.2.1.1∈S)/\ ∀l∈y.2.take m,l.1≠3->l.2.1.1∈S
 refine kH M (λm=>y.2.length - m) 0 (by rw[hM];exact⟨u6,_,S,by simp [kF,e2],by simp [kF,e3],by simp [kF,e7],by simp [kF,e8],by simp [kF,e28],by simp [kF,e29],by simp [kF,e30],by simp [kF],by simp [kF],by simp [kF],by omega,hlt,hx,Ge.refl _ _,st6,P6,nw,o6,sd,cl,hcl,λl hl=>by simp at hl⟩) ?_
 clear e2 e3 e7 e8 e28 e29 e30 Df Tc PJ1 sd cl hSl ow o6 nw hlt hx hcl PJ P6
 intro m σ h3 hm
 rw[hM]at hm
 obtain⟨u3,w,S,e2,e3,e7,e8,e28,e29,e30,e43,e44,e45,hm,hlt,hx,gM,stM,PM,nw,ow,sd,cl,hcl,hml⟩:=hm
 have PM1:=PM.1
 have hSl:=sd.len hp h16
 by_cases hmy:m<y.2.length
 case neg=>
  rw[aK (by omega)]at hml
  simp(disch:=first|omega|simp only[zz];try omega;done) only[↓reduceIte,go_sem,e30,e44,e45,au (show¬(m:Int)<(y.2.length:Nat) by omega)]
  refine⟨k+1,?_,by omega⟩
  rw[hJ]
  refine⟨u3,w,S,by simp [kF,e2],by simp [kF,e3],by simp [kF,e7],by simp [kF,e8],by simp [kF,e28],by simp [kF,e29],by simp [kF],hkp,hlt,hx,(gJ.trans s6.ge).trans gM,stM,PM,nw,ow,sd,cl,λc hc hcx=> ?_⟩
  rw[aS,hy]at hc
  rcases bG.1 hc with hc|hc
  ·exact hcl c hc hcx
  ·have hc:c=y:=by simpa using hc
   rw[hc];exact hml
 obtain⟨l,hl⟩: ∃l,y.2[m]? =some l:=⟨y.2[m],by simp [hmy]⟩
 obtain⟨tb,to,rfl,hqb2,hqu,hqz,hqr⟩:=(iy6.mono gM).row m l hl
 rw[tQ]at hqr
 obtain⟨lv,hqr,ilv⟩:=hqr
 obtain⟨la,lc,rfl,-,-⟩:=ilv.sl
 simp only[nL,yS,xF,aG,aP]at hqr hqu hqz
 obtain⟨q0,q1,q2,q3,q4,q5,q6,q7,q8,q9,q10,q11,q12,q13⟩:=hqr
 obtain⟨h7',h8,u8,hh7,hh8,B7,B8,s8,hz8⟩:=kZ u3 h3 [.int .i64 0,str [],.slice none 0 0,.int .i64 0,.int .i64 0,.int .i64 0,.int .i64 0,str [],.int .i64 0,.int .i64 0,.int .i64 0,str [],.int .i64 0,.int .i64 0] (nL l (.slice la l.2.1.2.1.length lc)) 100 rfl
 simp only[nL]at hh8 B8
 have B71:=B7.1
 have B81:=B8.1
 have o8:=ow.sZ s8
 have P8:=PM.sZ s8
 have st8:=stM.tZ s8
 have z8:=st8.ge.sz
 obtain⟨wa,wc,rfl,-,-⟩:=ow.sl
 have fin:(l.1≠3->l.2.1.1∈S)-> ∀z∈y.2.take (m+1),z.1≠3->z.2.1.1∈S:=λq z hz h3=>by
  rw[aS,hl]at hz
  rcases bG.1 hz with hz|hz
  ·exact hml z hz h3
  ·have hz:z=l:=by simpa using hz
   rw[hz]at h3 ⊢;exact q h3
 by_cases h3:l.1=3
 ·simp(disch:=first|omega|simp only[zz];try omega;done) only[↓reduceIte,go_sem,e43,e44,e45,af (show(m:Int)<(y.2.length:Nat) by omega),q0,q1,q2,q3,q4,q5,q6,q7,q8,q9,q10,q11,q12,q13,<-hh7,<-hh8,B7.2.1,B7.2.2.1,B8.at,B8.2.1,af h3]
  refine⟨m+1,?_,by omega⟩
  rw[hM]
  exact⟨u8,_,S,by simp [kF,e2],by simp [kF,e3],by simp [kF,e7],by simp [kF,e8],by simp [kF,e28],by simp [kF,e29],by simp [kF,e30],by simp [kF,e43],by simp [kF,e44],by simp [kF],hmy,hlt,hx,gM.trans s8.ge,st8,P8,nw,o8,sd,cl,hcl,fin λq=>absurd h3 q⟩
 simp(disch:=first|omega|simp only[zz];try omega;done) only[↓reduceIte,go_sem,e7,e43,e44,e45,af (show(m:Int)<(y.2.length:Nat) by omega),q0,q1,q2,q3,q4,q5,q6,q7,q8,q9,q10,q11,q12,q13,<-hh7,<-hh8,B7.2.1,B7.2.2.1,B8.at,B8.2.1,au h3]
 refine kD ⟨rfl,u8,_,S,l.2.1.1,rfl,o8.iZ,by omega,⟨kY,?_⟩⟩
 by_cases hin:l.2.1.1∈S
 ·obtain⟨n,n1,-,-⟩:=oN hin
  rw[n1]
  simp(disch:=first|omega|simp only[zz];try omega;done) only[↓reduceIte,go_sem,e45,au (show¬(n:Int)<0 by omega)]
  refine⟨m+1,?_,by omega⟩
  rw[hM]
  exact⟨u8,_,S,by simp [kF,e2],by simp [kF,e3],by simp [kF,e7],by simp [kF,e8],by simp [kF,e28],by simp [kF,e29],by simp [kF,e30],by simp [kF,e43],by simp [kF,e44],by simp [kF],hmy,hlt,hx,gM.trans s8.ge,st8,P8,nw,o8,sd,cl,hcl,fin λ_=>hin⟩
 ·rw[uW hin]
  simp(disch:=first|omega|simp only[zz];try omega;done) only[↓reduceIte,go_sem,B8.at,B8.2.1,e7]
  refine kK (by simp only[]) o8 (x:=l.2.1.1) (by rw[nu]) rfl rfl z8 (by omega) λa9 n9 c9 u9 h9 o9 s9 hO9=>⟨kY,?_⟩
  have hmem:l.2.1.1∈ad4 p:=fM.2 ⟨y,aI hy,bq.2 ⟨l,aI hl,rfl⟩⟩
  simp(disch:=first|omega|simp only[zz];try omega;done) only[↓reduceIte,go_sem,e45]
  refine⟨m+1,?_,by omega⟩
  rw[hM]
  refine⟨u9,.slice a9 n9 c9,S++[l.2.1.1],by simp [kF,e2],by simp [kF,e3],by simp [kF],by simp [kF,e8],by simp [kF,e28],by simp [kF,e29],by simp [kF,e30],by simp [kF,e43],by simp [kF,e44],by simp [kF],hmy,by simp;omega,by rw[bi hlt];exact hx,(gM.trans s8.ge).trans s9.ge,st8.own s9 λb q=>o8.ge q,P8.step s9 nw,λq=> ?_,o9,sd.add hin hmem,cl.add (by omega),λc hc hcx z hz hz3=>di _ (hcl c hc hcx z hz hz3),λz hz hz3=> ?_⟩
  ·rcases hO9 _ q with q|q
   ·exact nw q
   ·have:=P8.1;omega
  ·rw[aS,hl]at hz
   rcases bG.1 hz with hz|hz
   ·exact di _ (hml z hz hz3)
   ·have hz:z=l:=by simpa using hz
    rw[hz];simp
end Go.Proofs.Z
