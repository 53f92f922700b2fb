/- A part of the proof. -/
import Derived.Test.YtbnkepecoeohjaaGreatDoorTaT
import Derived.Test.YtbnkepecoeohjaaGreatDoorTpW
set_option linter.all false
set_option maxRecDepth 100000
set_option maxHeartbeats 4000000
namespace Go.Proofs.Z
open Go Go.Ev Edict
def Li(vs:List Value)(h:H)(K:Value->H->Prop):Prop:= ∃(u:U) (p:List kX) (v:Value),vs=[.agg #[v]]/\kM u h v p/\p.length<=512/\(∀c∈p,c.2.length<=16)/\ ∀(c t o:Int) (u':U) (h':H),(c=0->BI p)->kG S0 u h u' h'->K (.agg #[.int .i64 c,.int .i64 t,.int .i64 o]) h'
def Rx:mG:=λf vs h K _=>f=60/\WR vs h K
theorem IL:nz Tryz.prog Rx:=qd UW
theorem NI{vs:List Value}{h:H}{K:Value->H->Prop}{KP:List PanicEntry->H->Prop}(hC:Li vs h K):ma Tryz.prog 23 vs h K KP:=by
 obtain⟨u,p,v,rfl,iv,hp,h16,hK⟩:=hC
 refine kP 8590430039 [((some (.c1 (.ldn 3) (.t 2))),(.o1 (.ldn 3) (.t 2)))] IL Tryz.func23 (by kernel_rfl) (by conv=>lhs;cbv;try simp only[mF]) ?_
 obtain⟨va,vc,rfl,-,-⟩:=iv.sl
 obtain⟨h1,u1,hh1,zh1,p1,P1⟩:=kL u h [.slice va p.length vc] 87
 obtain⟨h2,u2,hh2,zh2,p2,R2⟩:=sJ u1 h1
 obtain⟨pb,hpb⟩:=kJ h.size
 obtain⟨rb,hrb⟩:=kJ h1.size
 rw[<-hpb]at P1
 rw[<-hrb]at R2
 have P11:=P1.1
 have P2:=P1.sZ p2
 have hrb0:h.size<=rb:=by omega
 have out: ∀(u':U) (h':H) (x y z:Int),kG S0 u h u' h'->kV u' h' rb [.int .i64 0,.int .i64 0,.int .i64 0]->(x=0->BI p)->kV u' (kU h' rb 0 [.int .i64 x,.int .i64 y,.int .i64 z]) rb [.int .i64 x,.int .i64 y,.int .i64 z]/\K (.agg #[.int .i64 x,.int .i64 y,.int .i64 z]) (kU h' rb 0 [.int .i64 x,.int .i64 y,.int .i64 z]):=λu' h' x y z st R hx=>
  tY _ _ _ st R hrb0 (λu' h' q=>hK x y z u' h' hx q)
 simp(disch:=first|omega|simp only[zz];try omega;done) only[↓reduceIte,go_sem]
 rw[<-hh1,<-hh2,<-hpb,show pb+1=rb by omega]
 obtain⟨I,hI⟩:=kJ (α:=Nat->lm->H->Prop) λk σ h'=> ∃(u':U),σ 1= .pointer (some ⟨pb,0,none⟩)/\σ 2= .pointer (some ⟨rb,0,none⟩)/\σ 8= .slice va p.length vc/\σ 9= .int .i64 (p.length:Nat)/\σ 10= .int .i64 k/\k<=p.length/\kG S0 u h u' h'/\kV u' h' pb [.slice va p.length vc]/\kV u' h' rb [.int .i64 0,.int .i64 0,.int .i64 0]/\ ∀c∈p.take k,∀l∈c.2,l.1=2-> ¬Hang p l.2.1.1 c.1.1
 refine kH I (λj=>p.length - j) 0 (by rw[hI];exact⟨u2,by simp [kF],by simp [kF],by simp [kF],by simp [kF],by simp [kF],by omega,p1.tZ p2,P2,R2,λx q=>by simp at q⟩) ?_
 clear hh1 hh2 P1 P11 P2 R2 p1 p2
 intro k σ h' hi
 rw[hI]at hi
 obtain⟨u',e1,e2,e8,e9,e10,hk,st,P,R,hbk⟩:=hi
 have R1:=R.1
 have P1:=P.1
 by_cases hlt:k<p.length
 case neg=>
  rw[aK (by omega)]at hbk
  obtain⟨x1,hK'⟩:=out u' h' 0 0 0 st R (λ_=>hbk)
  have x11:=x1.1
  simp(disch:=first|omega|simp only[zz];try omega;done) only[↓reduceIte,go_sem,e2,e9,e10,au (show¬(k:Int)<(p.length:Nat) by omega),R.2.1,R.2.2.1,x1.at,x1.2.1]
  exact hK'
 obtain⟨y,hy⟩:=uu hlt
 obtain⟨qb,qo,rfl,hqb,hpu,hpz,hpr⟩:=(iv.mono st.ge).row k y hy
 rw[rE]at hpr
 obtain⟨xv,yv,hpr,ixv,iyv⟩:=hpr
 obtain⟨xa,xc,rfl,-,-⟩:=ixv.sl
 obtain⟨ya,yc,rfl,-,-⟩:=iyv.sl
 simp only[vo,uH,aG,aP]at hpr hpu hpz
 obtain⟨p0,p1',p2',p3'⟩:=hpr
 obtain⟨h5',h6,u6,hh5,hh6,B5,B6,s6,hz6⟩:=kZ u' h' [str [],.slice none 0 0,.int .i64 0,.slice none 0 0] [str y.1.1,.slice xa y.1.2.1.length xc,.int .i64 y.1.2.2,.slice ya y.2.length yc] 147 rfl
 have B51:=B5.1
 have B61:=B6.1
 have P6:=P.sZ s6
 have R6:=R.sZ s6
 have st6:=st.tZ s6
 have iy6:=iyv.mono s6.ge
 have hy16:=h16 y (aI hy)
 obtain⟨cb,hcb⟩:=kJ h'.size
 rw[<-hcb]at B5 B51 B6 B61 hh6
 simp(disch:=first|omega|simp only[zz];try omega;done) only[↓reduceIte,go_sem,e8,e9,e10,af (show(k:Int)<(p.length:Nat) by omega),p0,p1',p2',p3',<-hcb,<-hh5,<-hh6,B5.2.1,B5.2.2.1,B6.at,B6.2.1]
 obtain⟨M,hM⟩:=kJ (α:=Nat->lm->H->Prop) λm σ h3=> ∃(u3:U),σ 1= .pointer (some ⟨pb,0,none⟩)/\σ 2= .pointer (some ⟨rb,0,none⟩)/\σ 4= .pointer (some ⟨cb,0,none⟩)/\σ 8= .slice (some ⟨qb,qo,none⟩) p.length vc/\σ 9= .int .i64 (p.length:Nat)/\σ 10= .int .i64 k/\σ 15= .slice ya y.2.length yc/\σ 16= .int .i64 (y.2.length:Nat)/\σ 17= .int .i64 m/\m<=y.2.length/\Ge u6 h6 u3 h3/\kG S0 u h u3 h3/\kV u3 h3 pb [.slice (some ⟨qb,qo,none⟩) p.length vc]/\kV u3 h3 rb [.int .i64 0,.int .i64 0,.int .i64 0]/\kV u3 h3 cb [str y.1.1,.slice xa y.1.2.1.length xc,.int .i64 y.1.2.2,.slice ya y.2.length yc]/\ ∀l∈y.2.take m,l.1=2-> ¬Hang p l.2.1.1 y.1.1
 refine kH M (λm=>y.2.length - m) 0 (by rw[hM];exact⟨u6,by simp [kF,e1],by simp [kF,e2],by simp [kF],by simp [kF,e8],by simp [kF,e9],by simp [kF,e10],by simp [kF],by simp [kF],by simp [kF],by omega,Ge.refl _ _,st6,P6,R6,B6,λl hl=>by simp at hl⟩) ?_
 intro m σ h3 hm
 rw[hM]at hm
 obtain⟨u3,f1,f2,f4,f8,f9,f10,f15,f16,f17,hm,gM,stM,PM,RM,CM,hml⟩:=hm
 have PM1:=PM.1
 have RM1:=RM.1
 have CM1:=CM.1
 by_cases hmy:m<y.2.length
 case neg=>
  rw[aK (by omega)]at hml
  simp(disch:=first|omega|simp only[zz];try omega;done) only[↓reduceIte,go_sem,f10,f16,f17,au (show¬(m:Int)<(y.2.length:Nat) by omega)]
  refine⟨k+1,?_,by omega⟩
  rw[hI]
  refine⟨u3,by simp [kF,f1],by simp [kF,f2],by simp [kF,f8],by simp [kF,f9],by simp [kF],hlt,stM,PM,RM,λz hz=> ?_⟩
  rw[aS,hy]at hz
  rcases bG.1 hz with hz|hz
  ·exact hbk z hz
  ·have hz:z=y:=by simpa using hz
   rw[hz];exact hml
 obtain⟨l,hl⟩: ∃l,y.2[m]? =some l:=⟨y.2[m],by simp [hmy]⟩
 obtain⟨tb,to,rfl,hqb2,hqu,hqz,hqr⟩:=(iy6.mono gM).row m l hl
 rw[tQ]at hqr
 obtain⟨lv,hqr,ilv⟩:=hqr
 obtain⟨la,lc,rfl,-,-⟩:=ilv.sl
 simp only[nL,yS,xF,aG,aP]at hqr hqu hqz
 obtain⟨q0,q1,q2,q3,q4,q5,q6,q7,q8,q9,q10,q11,q12,q13⟩:=hqr
 obtain⟨h7',h8,u8,hh7,hh8,B7,B8,s8,hz8⟩:=kZ u3 h3 [.int .i64 0,str [],.slice none 0 0,.int .i64 0,.int .i64 0,.int .i64 0,.int .i64 0,str [],.int .i64 0,.int .i64 0,.int .i64 0,str [],.int .i64 0,.int .i64 0] (nL l (.slice la l.2.1.2.1.length lc)) 100 rfl
 simp only[nL]at hh8 B8
 have B71:=B7.1
 have B81:=B8.1
 have P8:=PM.sZ s8
 have R8:=RM.sZ s8
 have C8:=CM.sZ s8
 have st8:=stM.tZ s8
 have P81:=P8.1
 have C81:=C8.1
 have fin:(l.1=2-> ¬Hang p l.2.1.1 y.1.1)-> ∀z∈y.2.take (m+1),z.1=2-> ¬Hang p z.2.1.1 y.1.1:=λq z hz=>by
  rw[aS,hl]at hz
  rcases bG.1 hz with hz|hz
  ·exact hml z hz
  ·have hz:z=l:=by simpa using hz
   rw[hz];exact q
 by_cases h2:l.1=2
 case neg=>
  simp(disch:=first|omega|simp only[zz];try omega;done) only[↓reduceIte,go_sem,f1,f4,f15,f16,f17,af (show(m:Int)<(y.2.length:Nat) by omega),q0,q1,q2,q3,q4,q5,q6,q7,q8,q9,q10,q11,q12,q13,<-hh7,<-hh8,B7.2.1,B7.2.2.1,B8.at,B8.2.1,au h2,P8.at,C8.at]
  refine⟨m+1,?_,by omega⟩
  rw[hM]
  exact⟨u8,by simp [kF,f1],by simp [kF,f2],by simp [kF,f4],by simp [kF,f8],by simp [kF,f9],by simp [kF,f10],by simp [kF,f15],by simp [kF,f16],by simp [kF],hmy,gM.trans s8.ge,st8,P8,R8,C8,fin λq=>absurd q h2⟩
 simp(disch:=first|omega|simp only[zz];try omega;done) only[↓reduceIte,go_sem,f1,f4,f15,f16,f17,af (show(m:Int)<(y.2.length:Nat) by omega),q0,q1,q2,q3,q4,q5,q6,q7,q8,q9,q10,q11,q12,q13,<-hh7,<-hh8,B7.2.1,B7.2.2.1,B8.at,B8.2.1,af h2,P8.at,P8.2.1,C8.at,C8.2.1]
 refine kD ⟨rfl,u8,p,_,l.2.1.1,y.1.1,rfl,iv.mono st8.ge,hp,h16,λr (u9:U) (h9:H) hr s9=>⟨kY,?_⟩⟩
 have R9:=R8.sZ s9
 have P9:=P8.sZ s9
 have C9:=C8.sZ s9
 have B9:=B8.sZ s9
 have st9:=st8.tZ s9
 have B91:=B9.1
 have R91:=R9.1
 cases r with
 |true=>
  obtain⟨x1,hK'⟩:=out u9 h9 40 0 l.2.2.2.2.2 st9 R9 (λq=>by cases q)
  have x11:=x1.1
  simp(disch:=first|omega|simp only[zz];try omega;done) only[↓reduceIte,go_sem,B9.at,B9.2.1,f2,R9.2.1,R9.2.2.1,x1.at,x1.2.1]
  exact hK'
 |false=>
  simp(disch:=first|omega|simp only[zz];try omega;done) only[↓reduceIte,go_sem,f17]
  refine⟨m+1,?_,by omega⟩
  rw[hM]
  exact⟨u9,by simp [kF,f1],by simp [kF,f2],by simp [kF,f4],by simp [kF,f8],by simp [kF,f9],by simp [kF,f10],by simp [kF,f15],by simp [kF,f16],by simp [kF],hmy,(gM.trans s8.ge).trans s9.ge,st9,P9,R9,C9,fin λ_=>hr rfl⟩
end Go.Proofs.Z
namespace Edict
theorem YP{l:List sU}{x:sU}{k:Nat}(h:l[k]? =some x)(hb: ∀j,j<k->l[j]? ≠some x):Fs l x=k:=by
 have hm:=aI h
 have hlt:(l.findIdx λy=>decide (y=x))<l.length:=dD ⟨x,hm,by simp⟩
 have q3:l[l.findIdx λy=>decide (y=x)]? =some x:=by
  have q:=fE (p:=λy:sU=>decide (y=x)) (w:=hlt)
  rw[aL hlt];simpa using q
 have h1:(l.findIdx λy=>decide (y=x))<=k:=by
  apply bR;intro q
  have:=gm (p:=λy:sU=>decide (y=x)) (xs:=l) (i:=k) (by omega)
  obtain⟨hk,hx⟩:=aJ.1 h
  rw[hx]at this
  simp at this
 have h2:k<=l.findIdx λy=>decide (y=x):=by
  apply bR;intro q
  exact hb _ (by omega) q3
 unfold Fs
 rw[ay hm];omega
theorem ad3{l:List sU}{x:sU}(h:x ∉ l):Fs l x= -1:=by unfold Fs;rw[ah h]
def Sy(x:sU):List Go.Value:=[.int .i64 x.1,.int .i64 x.2.1,Go.Ev.str x.2.2]
abbrev JG:=Nm×List sU
end Edict
namespace Go.Ev
open Go Rep Edict
variable {cs:List Value} {u:U} {h:H}
theorem IK{x:sU}:rep u h x cs=(cs=Sy x):=by simp [mO,lD,qK,Sy]
theorem abV:sz sU=3:=rfl
theorem WQ{x:JG}:rep u h x cs=(∃v,cs=[str x.1,v]/\kM u h v x.2):=by
 apply propext
 simp only[mO,qK,qi]
 constructor
 ·rintro ⟨_,_,rfl,rfl,v,rfl,i⟩;exact⟨v,rfl,i⟩
 ·rintro ⟨v,rfl,i⟩;exact⟨_,_,rfl,rfl,v,rfl,i⟩
theorem af6:sz JG=2:=rfl
end Go.Ev
namespace Go.Proofs.Z
open Go Go.Ev Edict
variable {vs:List Value} {h:H} {K:Value->H->Prop} {KP:List PanicEntry->H->Prop}
def Ah(vs:List Value)(h:H)(K:Value->H->Prop):Prop:= ∃(u:U) (t:ll),vs=[.agg (lW t).toArray]/\ ∀u' h',kG S0 u h u' h'->K (.agg (Sy (rH t)).toArray) h'
theorem xY(hC:Ah vs h K):ma Tryz.prog 67 vs h K KP:=by
 obtain⟨u,t,rfl,hK⟩:=hC
 refine kP 7 [((some (.c1 (.ldn 3) (.t 2))),(.o1 (.ldn 3) (.t 2)))] (G:=(λ_ _ _ _ _=>False)) (λ_ _ _ _ _ h=>h.elim) Tryz.func67 (by kernel_rfl) (by conv=>lhs;cbv;try simp only[mF]) ?_
 simp only[lW]
 simp(disch:=first|omega|simp only[zz];try omega;done) only[↓reduceIte,go_sem]
 exact hK _ _ (by repeat (first|exact kG.refl _ _ _|assumption|apply kG.pZ))
def Lh(vs:List Value)(h:H)(K:Value->H->Prop):Prop:= ∃(u:U) (v:Value) (l:List sU) (x:sU),vs=[v,.agg (Sy x).toArray]/\kM u h v l/\l.length<=1000000000/\ ∀u' h',kG S0 u h u' h'->K (.int .i64 (Fs l x)) h'
theorem NH(hC:Lh vs h K):ma Tryz.prog 66 vs h K KP:=by
 obtain⟨u,v,l,x,rfl,iv,hl,hK⟩:=hC
 refine kP 66491 [(none,(.t 4))] (G:=(λ_ _ _ _ _=>False)) (λ_ _ _ _ _ h=>h.elim) Tryz.func66 (by kernel_rfl) (by conv=>lhs;cbv;try simp only[mF]) ?_
 obtain⟨va,vc,rfl,-,-⟩:=iv.sl
 obtain⟨h1,u1,hh1,zh1,p1,B⟩:=kL u h (Sy x) 160
 simp only[Sy]at hh1 B
 obtain⟨bb,hbb⟩:=kJ h.size
 rw[<-hbb]at B
 have B1:=B.1
 have i1:=iv.mono p1.ge
 simp only[Sy]
 simp(disch:=first|omega|simp only[zz];try omega;done) only[↓reduceIte,go_sem,<-hh1,<-hbb]
 obtain⟨I,hI⟩:=kJ (α:=Nat->lm->H->Prop) λk σ h'=>σ 0= .slice va l.length vc/\σ 3= .pointer (some ⟨bb,0,none⟩)/\σ 7= .int .i64 (l.length:Nat)/\σ 8= .int .i64 k/\h'=h1/\k<=l.length/\ ∀j,j<k->l[j]? ≠some x
 refine kH I (λj=>l.length - j) 0 (by rw[hI];exact⟨by simp [kF],by simp [kF],by simp [kF],by simp [kF],rfl,by omega,λj q=>by omega⟩) ?_
 intro k σ h' hi
 rw[hI]at hi
 obtain⟨e0,e3,e7,e8,rfl,hk,hb⟩:=hi
 by_cases hlt:k<l.length
 case neg=>
  have hK:=hK _ _ p1
  rw[ad3 (NP λj q=>hb j (by omega))]at hK
  simp(disch:=first|omega|simp only[zz];try omega;done) only[↓reduceIte,go_sem,e7,e8,au (show¬(k:Int)<(l.length:Nat) by omega)]
  exact hK
 obtain⟨y,hy⟩:=uu hlt
 obtain⟨pb,po,rfl,hpb,hpu,hpz,hpr⟩:=i1.row k y hy
 rw[IK]at hpr
 simp only[Sy,abV,vD,aG,aP]at hpr hpu hpz
 obtain⟨p0,p1',p2⟩:=hpr
 by_cases hxy:y=x
 ·subst hxy
  have hK:=hK _ _ p1
  rw[YP hy hb]at hK
  simp(disch:=first|omega|simp only[zz];try omega;done) only[↓reduceIte,go_sem,e0,e3,e7,e8,af (show(k:Int)<(l.length:Nat) by omega),p0,p1',p2,B.at,B.2.1]
  exact hK
 ·have hne: ¬(y.1=x.1/\y.2.1=x.2.1/\y.2.2=x.2.2):=fun⟨a,b,c⟩=>hxy (by obtain⟨y1,y2,y3⟩:=y;obtain⟨x1,x2,x3⟩:=x;simp only at a b c;rw[a,b,c])
  simp(disch:=first|omega|simp only[zz];try omega;done) only[↓reduceIte,go_sem,e0,e3,e7,e8,af (show(k:Int)<(l.length:Nat) by omega),p0,p1',p2,B.at,B.2.1,au hne]
  exact⟨k+1,by rw[hI];exact⟨by simp [kF,e0],by simp [kF,e3],by simp [kF,e7],by simp [kF],rfl,hlt,λj q=>by
   by_cases hj:j=k
   ·rw[hj,hy];exact λe=>hxy (bu e)
   ·exact hb j (by omega)⟩,by omega⟩
end Go.Proofs.Z
namespace Edict
def YO(cs:List sU)(t:ll):List sU:=if t.1=4 then cs else ni cs (rH t)
def Zo(cs:List sU)(l:List ll):List sU:=l.foldl YO cs
theorem CG{α:Type} [DecidableEq α]{l:List α}{x:α}:(ni l x).length<=l.length+1:=by unfold ni;split<;>simp
theorem UV{cs:List sU}{t:ll}:(YO cs t).length<=cs.length+1:=by unfold YO;split;omega;exact CG
theorem IJ: ∀{l:List ll} {cs:List sU},(Zo cs l).length<=cs.length+l.length
 |[],cs=>by simp [Zo]
 |t::l,cs=>by
  have:=IJ (l:=l) (cs:=YO cs t)
  have:=UV (cs:=cs) (t:=t)
  rw[Zo,eP,aM]
  unfold Zo at*
  omega
structure WV where
 (r f p l c:Go.Value)
structure WD where
 (R:List Xe) (F:List JG) (P:List Nm) (cs:List sU)
end Edict
namespace Go.Proofs.Z
open Go Go.Ev Edict
structure Wd (k0:Nat) (u:U) (h:H) (wb:Nat) (V:WV) (D:WD):Prop where
 B:kV u h wb [V.r,V.f,V.p,V.l,V.c]
 wb0:k0<=wb
 r:mr k0 u h V.r D.R
 f:mr k0 u h V.f D.F
 p:mr k0 u h V.p D.P
 c:mr k0 u h V.c D.cs
 nr: ¬kN V.r wb
 nf: ¬kN V.f wb
 np: ¬kN V.p wb
 nc: ¬kN V.c wb
 rf: ∀b,kN V.r b-> ¬kN V.f b
 rp: ∀b,kN V.r b-> ¬kN V.p b
 rc: ∀b,kN V.r b-> ¬kN V.c b
 fp: ∀b,kN V.f b-> ¬kN V.p b
 fc: ∀b,kN V.f b-> ¬kN V.c b
 pc: ∀b,kN V.p b-> ¬kN V.c b
def Sw(wb:Nat)(V:WV)(b:Nat):Prop:=b=wb\/kN V.r b\/kN V.f b\/kN V.p b\/kN V.c b
structure rG (wb:Nat) (V V':WV) (u:U) (h:H) (u':U) (h':H):Prop where
 st:kG (Sw wb V) u h u' h'
 sub: ∀b,Sw wb V' b->Sw wb V b\/h.size<=b
theorem rG.refl(wb:Nat)(V:WV)(u:U)(h:H):rG wb V V u h u h:=⟨.refl _ _ _,λb q=> .inl q⟩
theorem rG.of0{wb:Nat}{V:WV}{u u':U}{h h':H}(s:kG S0 u h u' h'):rG wb V V u h u' h':=⟨s.mono λ_ _ q=>q.elim,λb q=> .inl q⟩
theorem rG.trans{wb:Nat}{V V' V2:WV}{u u1 u2:U}{h h1 h2:H}(a:rG wb V V' u h u1 h1)(b:rG wb V' V2 u1 h1 u2 h2):rG wb V V2 u h u2 h2:=
 ⟨a.st.trans b.st λx hx q=>(a.sub x q).resolve_right (by omega),λx q=>by
  rcases b.sub x q with q|q
  ·exact a.sub x q
  ·exact .inr (aY a.st.ge.sz q)⟩
theorem rG.sZ{wb:Nat}{V V':WV}{u u1 u2:U}{h h1 h2:H}(a:rG wb V V' u h u1 h1)(b:kG S0 u1 h1 u2 h2):rG wb V V' u h u2 h2:=a.trans (.of0 b)
theorem Wd.sZ{k0 wb:Nat}{u u':U}{h h':H}{V:WV}{D:WD}(w:Wd k0 u h wb V D)(s:kG S0 u h u' h'):Wd k0 u' h' wb V D:=
 ⟨w.B.sZ s,w.wb0,w.r.sZ s,w.f.sZ s,w.p.sZ s,w.c.sZ s,w.nr,w.nf,w.np,w.nc,w.rf,w.rp,w.rc,w.fp,w.fc,w.pc⟩
theorem Wd.ge{k0 wb:Nat}{u:U}{h:H}{V:WV}{D:WD}(w:Wd k0 u h wb V D){b:Nat}(q:Sw wb V b):k0<=b/\b<h.size:=by
 rcases q with rfl|q|q|q|q
 ·exact⟨w.wb0,w.B.1⟩
 ·exact⟨w.r.ge q,w.r.lt q⟩
 ·exact⟨w.f.ge q,w.f.lt q⟩
 ·exact⟨w.p.ge q,w.p.lt q⟩
 ·exact⟨w.c.ge q,w.c.lt q⟩
theorem Wd.keep{k0 wb:Nat}{u u':U}{h h':H}{V V':WV}{D:WD}(w:Wd k0 u h wb V D)(s:rG wb V V' u h u' h'){b:Nat}{cs:List Value}(B:kV u h b cs)(hn: ¬Sw wb V b):kV u' h' b cs/\ ¬Sw wb V' b:=
 ⟨B.step s.st hn,λq=>(s.sub b q).elim hn λq=>by have:=B.1;omega⟩
section sets
variable {k0 wb:Nat} {u u':U} {h h':H} {V:WV} {D:WD} {v:Value}
theorem Wd.set(w:Wd k0 u h wb V D){S:Nat->Prop}(hS: ∀b,S b->Sw wb V b)(hw: ¬S wb)(s:kG S u h u' h')(i:Nat):kV u' h' wb [V.r,V.f,V.p,V.l,V.c]/\kG (Sw wb V) u h u' (lh h' wb i v)/\kG (λb=>b=wb) u' h' u' (lh h' wb i v):=by
 have B':=w.B.step s hw
 have t:=kG.set (S:=λb=>b=wb) u' h' (b:=wb) (o:=i) v rfl (by rw[B'.2.2.2.1];exact az _)
 exact⟨B',(s.mono λb _ q=>hS b q).trans t λb _ q=> .inl q,t⟩
theorem Wd.setC(w:Wd k0 u h wb V D){l:List sU}(o:mr k0 u' h' v l)(s:kG (kN V.c) u h u' h')(hO: ∀b,kN v b->kN V.c b\/h.size<=b):
  Wd k0 u' (lh h' wb 4 v) wb {V with c:=v} {D with cs:=l}/\rG wb V {V with c:=v} u h u' (lh h' wb 4 v):=by
 obtain⟨B',st,t⟩:=w.set (v:=v) (S:=kN V.c) (λb q=> .inr (.inr (.inr (.inr q)))) w.nc s 4
 have hlt:=w.B.1
 have nv: ¬kN v wb:=λq=>(hO _ q).elim w.nc λq=>by omega
 have lt:=fun{b:Nat} (q:Sw wb V b)=>(w.ge q).2
 refine⟨⟨B'.set (i:=4) (v:=v) (by simp),w.wb0,(w.r.step s w.rc).step t λb q e=>w.nr (e▸q),(w.f.step s w.fc).step t λb q e=>w.nf (e▸q),(w.p.step s w.pc).step t λb q e=>w.np (e▸q),o.step t λb q e=>nv (e▸q),w.nr,w.nf,w.np,nv,w.rf,w.rp,λb q q'=> ?_,w.fp,λb q q'=> ?_,λb q q'=> ?_⟩,st,λb q=> ?_⟩
 ·exact(hO _ q').elim (w.rc b q) λe=>by have:=w.r.lt q;omega
 ·exact(hO _ q').elim (w.fc b q) λe=>by have:=w.f.lt q;omega
 ·exact(hO _ q').elim (w.pc b q) λe=>by have:=w.p.lt q;omega
 ·rcases q with q|q|q|q|q
  ·exact .inl (.inl q)
  ·exact .inl (.inr (.inl q))
  ·exact .inl (.inr (.inr (.inl q)))
  ·exact .inl (.inr (.inr (.inr (.inl q))))
  ·exact(hO _ q).imp (λq=> .inr (.inr (.inr (.inr q)))) id
theorem Wd.setP(w:Wd k0 u h wb V D){l:List Nm}(o:mr k0 u' h' v l)(s:kG (kN V.p) u h u' h')(hO: ∀b,kN v b->kN V.p b\/h.size<=b):
  Wd k0 u' (lh h' wb 2 v) wb {V with p:=v} {D with P:=l}/\rG wb V {V with p:=v} u h u' (lh h' wb 2 v):=by
 obtain⟨B',st,t⟩:=w.set (v:=v) (S:=kN V.p) (λb q=> .inr (.inr (.inr (.inl q)))) w.np s 2
 have hlt:=w.B.1
 have nv: ¬kN v wb:=λq=>(hO _ q).elim w.np λq=>by omega
 refine⟨⟨B'.set (i:=2) (v:=v) (by simp),w.wb0,(w.r.step s w.rp).step t λb q e=>w.nr (e▸q),(w.f.step s w.fp).step t λb q e=>w.nf (e▸q),o.step t λb q e=>nv (e▸q),(w.c.step s λb q q'=>w.pc b q' q).step t λb q e=>w.nc (e▸q),w.nr,w.nf,nv,w.nc,w.rf,λb q q'=> ?_,w.rc,λb q q'=> ?_,w.fc,λb q q'=> ?_⟩,st,λb q=> ?_⟩
 ·exact(hO _ q').elim (w.rp b q) λe=>by have:=w.r.lt q;omega
 ·exact(hO _ q').elim (w.fp b q) λe=>by have:=w.f.lt q;omega
 ·exact(hO _ q).elim (λq=>w.pc b q q') λe=>by have:=w.c.lt q';omega
 ·rcases q with q|q|q|q|q
  ·exact .inl (.inl q)
  ·exact .inl (.inr (.inl q))
  ·exact .inl (.inr (.inr (.inl q)))
  ·exact(hO _ q).imp (λq=> .inr (.inr (.inr (.inl q)))) id
  ·exact .inl (.inr (.inr (.inr (.inr q))))
theorem Wd.setF(w:Wd k0 u h wb V D){l:List JG}(o:mr k0 u' h' v l)(s:kG (kN V.f) u h u' h')(hO: ∀b,kN v b->kN V.f b\/h.size<=b):
  Wd k0 u' (lh h' wb 1 v) wb {V with f:=v} {D with F:=l}/\rG wb V {V with f:=v} u h u' (lh h' wb 1 v):=by
 obtain⟨B',st,t⟩:=w.set (v:=v) (S:=kN V.f) (λb q=> .inr (.inr (.inl q))) w.nf s 1
 have hlt:=w.B.1
 have nv: ¬kN v wb:=λq=>(hO _ q).elim w.nf λq=>by omega
 refine⟨⟨B'.set (i:=1) (v:=v) (by simp),w.wb0,(w.r.step s w.rf).step t λb q e=>w.nr (e▸q),o.step t λb q e=>nv (e▸q),(w.p.step s λb q q'=>w.fp b q' q).step t λb q e=>w.np (e▸q),(w.c.step s λb q q'=>w.fc b q' q).step t λb q e=>w.nc (e▸q),w.nr,nv,w.np,w.nc,λb q q'=> ?_,w.rp,w.rc,λb q q'=> ?_,λb q q'=> ?_,w.pc⟩,st,λb q=> ?_⟩
 ·exact(hO _ q').elim (w.rf b q) λe=>by have:=w.r.lt q;omega
 ·exact(hO _ q).elim (λq=>w.fp b q q') λe=>by have:=w.p.lt q';omega
 ·exact(hO _ q).elim (λq=>w.fc b q q') λe=>by have:=w.c.lt q';omega
 ·rcases q with q|q|q|q|q
  ·exact .inl (.inl q)
  ·exact .inl (.inr (.inl q))
  ·exact(hO _ q).imp (λq=> .inr (.inr (.inl q))) id
  ·exact .inl (.inr (.inr (.inr (.inl q))))
  ·exact .inl (.inr (.inr (.inr (.inr q))))
theorem Wd.setR(w:Wd k0 u h wb V D){l:List Xe}(o:mr k0 u' h' v l)(s:kG (kN V.r) u h u' h')(hO: ∀b,kN v b->kN V.r b\/h.size<=b):
  Wd k0 u' (lh h' wb 0 v) wb {V with r:=v} {D with R:=l}/\rG wb V {V with r:=v} u h u' (lh h' wb 0 v):=by
 obtain⟨B',st,t⟩:=w.set (v:=v) (S:=kN V.r) (λb q=> .inr (.inl q)) w.nr s 0
 have hlt:=w.B.1
 have nv: ¬kN v wb:=λq=>(hO _ q).elim w.nr λq=>by omega
 refine⟨⟨B'.set (i:=0) (v:=v) (by simp),w.wb0,o.step t λb q e=>nv (e▸q),(w.f.step s λb q q'=>w.rf b q' q).step t λb q e=>w.nf (e▸q),(w.p.step s λb q q'=>w.rp b q' q).step t λb q e=>w.np (e▸q),(w.c.step s λb q q'=>w.rc b q' q).step t λb q e=>w.nc (e▸q),nv,w.nf,w.np,w.nc,λb q q'=> ?_,λb q q'=> ?_,λb q q'=> ?_,w.fp,w.fc,w.pc⟩,st,λb q=> ?_⟩
 ·exact(hO _ q).elim (λq=>w.rf b q q') λe=>by have:=w.f.lt q';omega
 ·exact(hO _ q).elim (λq=>w.rp b q q') λe=>by have:=w.p.lt q';omega
 ·exact(hO _ q).elim (λq=>w.rc b q q') λe=>by have:=w.c.lt q';omega
 ·rcases q with q|q|q|q|q
  ·exact .inl (.inl q)
  ·exact(hO _ q).imp (λq=> .inr (.inl q)) id
  ·exact .inl (.inr (.inr (.inl q)))
  ·exact .inl (.inr (.inr (.inr (.inl q))))
  ·exact .inl (.inr (.inr (.inr (.inr q))))
end sets
def NG(vs:List Value)(h:H)(K:Value->H->Prop):Prop:= ∃(u:U) (k0 wb:Nat) (V:WV) (D:WD) (t:ll),vs=[.pointer (some ⟨wb,0,none⟩),.agg (lW t).toArray]/\Wd k0 u h wb V D/\D.cs.length<=1000000000/\
 ∀u' h' v,Wd k0 u' h' wb {V with c:=v} {D with cs:=YO D.cs t}->rG wb V {V with c:=v} u h u' h'->K (.tuple #[]) h'
def abU:mG:=λf vs h K _=>f=67/\Ah vs h K
theorem Rv:nz Tryz.prog abU:=qd xY
theorem Lg{vs:List Value}{h:H}{K:Value->H->Prop}{KP:List PanicEntry->H->Prop}(hC:NG vs h K):ma Tryz.prog 62 vs h K KP:=by
 obtain⟨u,k0,wb,V,D,t,rfl,w,hcs,hK⟩:=hC
 refine kP 2158891 [] Rv Tryz.func62 (by kernel_rfl) (by conv=>lhs;cbv;try simp only[mF]) ?_
 obtain⟨r,f,p,l,c⟩:=V
 obtain⟨ca,cc,hc,-,-⟩:=w.c.sl
 simp only at hc
 subst hc
 obtain⟨h1,u1,hh1,zh1,p1,T1⟩:=kL u h (lW t) 98
 obtain⟨tb,htb⟩:=kJ h.size
 rw[<-htb]at T1
 have w1:=w.sZ p1
 have st1:rG wb ⟨r,f,p,l,.slice ca D.cs.length cc⟩ ⟨r,f,p,l,.slice ca D.cs.length cc⟩ u h u1 h1:= .of0 p1
 have hwb:=w.B.1
 have W1:=w1.B
 have W11:=W1.1
 have T11:=T1.1
 have nT: ¬Sw wb ⟨r,f,p,l,.slice ca D.cs.length cc⟩ tb:=λq=>by have:=(w.ge q).2;omega
 simp only[lW]at hh1 T1 ⊢
 by_cases h4:t.1=4
 ·have hK:=hK u1 h1 _ (by unfold YO;rw[ay h4];exact w1) st1
  simp(disch:=first|omega|simp only[zz];try omega;done) only[↓reduceIte,go_sem,<-hh1,<-htb,T1.at,T1.2.1,af h4]
  exact hK
 have hK: ∀u' h' v,Wd k0 u' h' wb ⟨r,f,p,l,v⟩ {D with cs:=ni D.cs (rH t)}->rG wb ⟨r,f,p,l,.slice ca D.cs.length cc⟩ ⟨r,f,p,l,v⟩ u h u' h'->K (.tuple #[]) h':=λu' h' v a b=>hK u' h' v (by unfold YO;rw[ah h4];exact a) b
 simp(disch:=first|omega|simp only[zz];try omega;done) only[↓reduceIte,go_sem,<-hh1,<-htb,T1.at,T1.2.1,au h4,W1.at,W1.2.1]
 obtain⟨I,hI⟩:=kJ (α:=Nat->lm->H->Prop) λk σ h'=> ∃(u':U),σ 0= .pointer (some ⟨wb,0,none⟩)/\σ 3= .pointer (some ⟨tb,0,none⟩)/\σ 12= .slice ca D.cs.length cc/\σ 13= .int .i64 (D.cs.length:Nat)/\σ 14= .int .i64 k/\k<=D.cs.length/\kG S0 u1 h1 u' h'/\ ∀j,j<k->D.cs[j]? ≠some (rH t)
 refine kH I (λj=>D.cs.length - j) 0 (by rw[hI];exact⟨u1,by simp [kF],by simp [kF],by simp [kF],by simp [kF],by simp [kF],by omega,.refl _ _ _,λj q=>by omega⟩) ?_
 intro k σ h' hi
 rw[hI]at hi
 obtain⟨u',e0,e3,e12,e13,e14,hk,st,hb⟩:=hi
 have w':=w1.sZ st
 have T':=T1.sZ st
 have W':=w'.B
 have W'1:=W'.1
 have T'1:=T'.1
 have zzl:=st.ge.sz
 by_cases hlt:k<D.cs.length
 case neg=>
  have hno:rH t ∉ D.cs:=NP λj q=>hb j (by omega)
  simp(disch:=first|omega|simp only[zz];try omega;done) only[↓reduceIte,go_sem,e0,e3,e13,e14,au (show¬(k:Int)<(D.cs.length:Nat) by omega),T'.at,T'.2.1,W'.at,W'.2.1]
  refine kD ⟨rfl,u',t,rfl,λu2 h2 s2=> ?_⟩
  have w2:=w'.sZ s2
  have W2:=w2.B
  have W21:=W2.1
  have T2:=T'.sZ s2
  refine⟨by simp(disch:=first|omega|simp only[zz];try omega;done) only[↓reduceIte,go_sem,W'.at,W2.at,W2.2.1,e0],?_⟩
  have z2:=s2.ge.sz
  simp(disch:=first|omega|simp only[zz];try omega;done) only[↓reduceIte,go_sem,e0,W2.at,W2.2.1,Sy]
  have hk0:k0<=h2.size:=by have:=w2.wb0;omega
  refine kK (by simp only[]) w2.c (x:=rH t) (by rw[IK];rfl) rfl rfl hk0 (by omega) λa5 n5 c5 u5 h5 o5 s5 hO5=>⟨kY,?_⟩
  obtain⟨w6,t6⟩:=w2.setC o5 s5 hO5
  have hz5:(h5.size)=h5.size:=rfl
  have W5:=W2.step s5 w2.nc
  have W51:=W5.1
  simp(disch:=first|omega|simp only[zz];try omega;done) only[↓reduceIte,go_sem,e0,W5.2.1,W5.2.2.1]
  exact hK _ _ _ (by unfold ni;rw[ah hno];exact w6) (((st1.sZ st).sZ s2).trans t6)
 obtain⟨y,hy⟩: ∃y,D.cs[k]? =some y:=⟨D.cs[k],by simp [hlt]⟩
 obtain⟨pb,po,rfl,hpb,hpu,hpz,hpr⟩:=w'.c.iZ.row k y hy
 rw[IK]at hpr
 simp only[Sy,abV,vD,aG,aP]at hpr hpu hpz
 obtain⟨p0,p1',p2'⟩:=hpr
 obtain⟨h5',h6,u6,hh5,hh6,B5,B6,s6,hz6⟩:=kZ u' h' [.int .i64 0,.int .i64 0,str []] (Sy y) 160 rfl
 simp only[Sy]at hh6 B6
 have B51:=B5.1
 have B61:=B6.1
 have T6:=T'.sZ s6
 have T61:=T6.1
 obtain⟨cb,hcb⟩:=kJ h'.size
 rw[<-hcb]at B5 B51 B6 B61 hh6
 simp(disch:=first|omega|simp only[zz];try omega;done) only[↓reduceIte,go_sem,e3,e12,e13,e14,af (show(k:Int)<(D.cs.length:Nat) by omega),p0,p1',p2',<-hcb,<-hh5,<-hh6,B5.2.1,B5.2.2.1,B6.at,B6.2.1,T6.at,T6.2.1]
 refine kD ⟨rfl,u6,t,rfl,λu2 h2 s2=> ?_⟩
 have B2:=B6.sZ s2
 refine⟨by simp(disch:=first|omega|simp only[zz];try omega;done) only[↓reduceIte,go_sem,B6.at,B2.at,B2.2.1],?_⟩
 have st2:=(st.tZ s6).tZ s2
 by_cases hxy:y=rH t
 ·have hin:rH t∈D.cs:=hxy▸aI hy
  have hK:=hK u2 h2 _ (by unfold ni;rw[ay hin];exact w1.sZ st2) (st1.sZ st2)
  subst hxy
  simp(disch:=first|omega|simp only[zz];try omega;done) only[↓reduceIte,go_sem,Sy]
  exact hK
 ·have hne: ¬(y.1=t.1/\y.2.1=t.2.1/\y.2.2=t.2.2.1):=fun⟨a,b,c⟩=>hxy (by obtain⟨y1,y2,y3⟩:=y;simp only at a b c;unfold rH;rw[a,b,c])
  simp(disch:=first|omega|simp only[zz];try omega;done) only[↓reduceIte,go_sem,Sy,rH,au hne,e14]
  exact⟨k+1,by rw[hI];exact⟨u2,by simp [kF,e0],by simp [kF,e3],by simp [kF,e12],by simp [kF,e13],by simp [kF],hlt,st2,λj q=>by
   by_cases hj:j=k
   ·rw[hj,hy];exact λe=>hxy (bu e)
   ·exact hb j (by omega)⟩,by omega⟩
end Go.Proofs.Z
namespace Go.Proofs.Z
open Go Go.Ev Edict
variable {vs:List Value} {h:H} {K:Value->H->Prop} {KP:List PanicEntry->H->Prop}
def II(vs:List Value)(h:H)(K:Value->H->Prop):Prop:= ∃(u:U) (a b:Nm) (va vb:Value) (l m:List sU),vs=[.agg #[str a,va],.agg #[str b,vb]]/\kM u h va l/\kM u h vb m/\l.length<=1000000000/\ ∀(r:Bool) u' h',kG S0 u h u' h'->K (.bool r) h'
theorem JF(hC:II vs h K):ma Tryz.prog 117 vs h K KP:=by
 obtain⟨u,a,b,va,vb,l,m,rfl,ia,ib,hl,hK⟩:=hC
 refine kP 68749361215 [(none,(.t 4))] (G:=(λ_ _ _ _ _=>False)) (λ_ _ _ _ _ h=>h.elim) Tryz.func117 (by kernel_rfl) (by conv=>lhs;cbv;try simp only[mF]) ?_
 obtain⟨aa,ac,rfl,-,-⟩:=ia.sl
 obtain⟨ba,bc,rfl,-,-⟩:=ib.sl
 obtain⟨h1,u1,hh1,zh1,p1,A1⟩:=kL u h [str a,.slice aa l.length ac] 194
 obtain⟨h2,u2,hh2,zh2,p2,B2⟩:=kL u1 h1 [str b,.slice ba m.length bc] 194
 obtain⟨ab,hab⟩:=kJ h.size
 obtain⟨bb,hbb⟩:=kJ h1.size
 rw[<-hab]at A1
 rw[<-hbb]at B2
 have A2:=A1.sZ p2
 have A21:=A2.1
 have B21:=B2.1
 have st2:=p1.tZ p2
 have ia2:=ia.mono st2.ge
 have ib2:=ib.mono st2.ge
 rcases dG (a=b/\l.length=m.length)with hc|hc
 case inr=>
  by_cases hab':a=b
  ·have hlen: ¬(l.length:Int)=m.length:=λq=>hc ⟨hab',by omega⟩
   simp(disch:=first|omega|simp only[zz];try omega;done) only[↓reduceIte,go_sem,<-hh1,<-hab,<-hbb,<-hh2,A2.at,A2.2.1,B2.at,B2.2.1,af hab',au hlen]
   exact hK _ _ _ st2
  ·simp(disch:=first|omega|simp only[zz];try omega;done) only[↓reduceIte,go_sem,<-hh1,<-hab,<-hbb,<-hh2,A2.at,A2.2.1,B2.at,B2.2.1,au hab']
   exact hK _ _ _ st2
 obtain⟨hab',hlen⟩:=hc
 simp(disch:=first|omega|simp only[zz];try omega;done) only[↓reduceIte,go_sem,<-hh1,<-hab,<-hbb,<-hh2,A2.at,A2.2.1,B2.at,B2.2.1,af hab',af (show(l.length:Int)=m.length by omega)]
 obtain⟨I,hI⟩:=kJ (α:=Nat->lm->H->Prop) λk σ h'=>σ 2= .pointer (some ⟨ab,0,none⟩)/\σ 3= .pointer (some ⟨bb,0,none⟩)/\σ 22= .int .i64 (l.length:Nat)/\σ 23= .int .i64 k/\h'=h2/\k<=l.length
 refine kH I (λj=>l.length - j) 0 (by rw[hI];exact⟨by simp [kF],by simp [kF],by simp [kF,hlen],by simp [kF],rfl,by omega⟩) ?_
 intro k σ h' hi
 rw[hI]at hi
 obtain⟨e2,e3,e22,e23,rfl,hk⟩:=hi
 by_cases hlt:k<l.length
 case neg=>
  simp(disch:=first|omega|simp only[zz];try omega;done) only[↓reduceIte,go_sem,e22,e23,au (show¬(k:Int)<(l.length:Nat) by omega)]
  exact hK _ _ _ st2
 obtain⟨y,hy⟩:=uu hlt
 obtain⟨z,hz⟩: ∃z,m[k]? =some z:=⟨m[k]'(by omega),by rw[aL]⟩
 obtain⟨pb,po,rfl,hpb,hpu,hpz,hpr⟩:=ia2.row k y hy
 obtain⟨qb,qo,rfl,hqb,hqu,hqz,hqr⟩:=ib2.row k z hz
 rw[IK]at hpr hqr
 simp only[Sy,abV,vD,aG,aP]at hpr hpu hpz hqr hqu hqz
 obtain⟨p0,p1',p2'⟩:=hpr
 obtain⟨q0,q1,q2⟩:=hqr
 simp(disch:=first|omega|simp only[zz];try omega;done) only[↓reduceIte,go_sem,e2,e3,e22,e23,af (show(k:Int)<(l.length:Nat) by omega),af (show(k:Int)<(m.length:Nat) by omega),A2.at,A2.2.1,B2.at,B2.2.1,p0,p1',p2',q0,q1,q2]
 exact⟨λ_=>hK _ _ _ st2,λ_=>⟨k+1,by rw[hI];exact⟨by simp [kF,e2],by simp [kF,e3],by simp [kF,e22],by simp [kF],rfl,by omega⟩,by omega⟩⟩
def Lf(vs:List Value)(h:H)(K:Value->H->Prop):Prop:= ∃(u:U) (v:Value) (l:List JG) (b:Nm) (vb:Value) (m:List sU),vs=[v,.agg #[str b,vb]]/\kM u h v l/\kM u h vb m/\l.length<=1000000000/\(∀x∈l,x.2.length<=1000000000)/\ ∀(r:Bool) u' h',kG S0 u h u' h'->K (.bool r) h'
def ad2:mG:=λf vs h K _=>f=117/\II vs h K
theorem UU:nz Tryz.prog ad2:=qd JF
theorem abS(hC:Lf vs h K):ma Tryz.prog 94 vs h K KP:=by
 obtain⟨u,v,l,b,vb,m,rfl,iv,ib,hl,hm,hK⟩:=hC
 refine kP 66491 [(none,(.t 4))] UU Tryz.func94 (by kernel_rfl) (by conv=>lhs;cbv;try simp only[mF]) ?_
 obtain⟨va,vc,rfl,-,-⟩:=iv.sl
 obtain⟨ba,bc,rfl,-,-⟩:=ib.sl
 obtain⟨h1,u1,hh1,zh1,p1,B1⟩:=kL u h [str b,.slice ba m.length bc] 194
 obtain⟨bb,hbb⟩:=kJ h.size
 rw[<-hbb]at B1
 have B11:=B1.1
 simp(disch:=first|omega|simp only[zz];try omega;done) only[↓reduceIte,go_sem,<-hh1,<-hbb]
 obtain⟨I,hI⟩:=kJ (α:=Nat->lm->H->Prop) λk σ h'=> ∃u',σ 0= .slice va l.length vc/\σ 3= .pointer (some ⟨bb,0,none⟩)/\σ 7= .int .i64 (l.length:Nat)/\σ 8= .int .i64 k/\kG S0 u h u' h'/\kV u' h' bb [str b,.slice ba m.length bc]/\k<=l.length
 refine kH I (λj=>l.length - j) 0 (by rw[hI];exact⟨u1,by simp [kF],by simp [kF],by simp [kF],by simp [kF],p1,B1,by omega⟩) ?_
 intro k σ h' hi
 rw[hI]at hi
 obtain⟨u',e0,e3,e7,e8,st,B,hk⟩:=hi
 have B'1:=B.1
 by_cases hlt:k<l.length
 case neg=>
  simp(disch:=first|omega|simp only[zz];try omega;done) only[↓reduceIte,go_sem,e7,e8,au (show¬(k:Int)<(l.length:Nat) by omega)]
  exact hK _ _ _ st
 obtain⟨y,hy⟩:=uu hlt
 obtain⟨pb,po,rfl,hpb,hpu,hpz,hpr⟩:=(iv.mono st.ge).row k y hy
 rw[WQ]at hpr
 obtain⟨yv,hpr,iy⟩:=hpr
 obtain⟨ya,yc,rfl,-,-⟩:=iy.sl
 simp only[af6,qX,aG,aP]at hpr hpu hpz
 obtain⟨p0,p1'⟩:=hpr
 simp(disch:=first|omega|simp only[zz];try omega;done) only[↓reduceIte,go_sem,e0,e3,e7,e8,af (show(k:Int)<(l.length:Nat) by omega),B.at,B.2.1,p0,p1']
 refine kD ⟨rfl,u',y.1,b,_,_,y.2,m,rfl,iy,ib.mono st.ge,hm y (aI hy),λr u2 h2 s2=>⟨kY,?_⟩⟩
 cases r with
 |true=>
  simp(disch:=first|omega|simp only[zz];try omega;done) only[↓reduceIte,go_sem,Vs]
  exact hK _ _ _ (st.tZ s2)
 |false=>
  simp(disch:=first|omega|simp only[zz];try omega;done) only[↓reduceIte,go_sem,e8]
  exact⟨k+1,by rw[hI];exact⟨u2,by simp [kF,e0],by simp [kF,e3],by simp [kF,e7],by simp [kF],st.tZ s2,B.sZ s2,hlt⟩,by omega⟩
def WP(vs:List Value)(h:H)(K:Value->H->Prop):Prop:= ∃(u:U) (k0 wb:Nat) (V:WV) (D:WD) (a:lH) (av:Value),vs=[.pointer (some ⟨wb,0,none⟩),.agg #[str a.1,av,.int .i64 a.2.2]]/\Wd k0 u h wb V D/\kM u h av a.2.1/\D.P.length<=1000000000/\D.cs.length+a.2.1.length<=1000000000/\
 ∀u' h' vp vc,Wd k0 u' h' wb {V with p:=vp,c:=vc} {D with P:=ni D.P a.1,cs:=Zo D.cs a.2.1}->rG wb V {V with p:=vp,c:=vc} u h u' h'->K (.tuple #[]) h'
def Rs:mG:=λf vs h K _=>(f=40/\rz vs h K)\/(f=62/\NG vs h K)
theorem Rt:nz Tryz.prog Rs:=mK oM (qd Lg)
theorem abT{cs:List sU}{l:List ll}{k:Nat}{t:ll}(h:l[k]? =some t):Zo cs (l.take (k+1))=YO (Zo cs (l.take k)) t:=by
 rw[aS,h];simp [Zo]
theorem YN(hC:WP vs h K):ma Tryz.prog 61 vs h K KP:=by
 obtain⟨u,k0,wb,V,D,a,av,rfl,w,iv,hP,hcs,hK⟩:=hC
 refine kP 1006641195 [] Rt Tryz.func61 (by kernel_rfl) (by conv=>lhs;cbv;try simp only[mF]) ?_
 obtain⟨aa,ac,rfl,-,-⟩:=iv.sl
 obtain⟨r,f,p,l,c⟩:=V
 obtain⟨pa,pc,hp,-,-⟩:=w.p.sl
 simp only at hp
 subst hp
 obtain⟨h1,u1,hh1,zh1,p1,A1⟩:=kL u h [str a.1,.slice aa a.2.1.length ac,.int .i64 a.2.2] 52
 obtain⟨ab,hab⟩:=kJ h.size
 rw[<-hab]at A1
 have w1:=w.sZ p1
 have st1:rG wb ⟨r,f,.slice pa D.P.length pc,l,c⟩ ⟨r,f,.slice pa D.P.length pc,l,c⟩ u h u1 h1:= .of0 p1
 have hwb:=w.B.1
 have W1:=w1.B
 have W11:=W1.1
 have A11:=A1.1
 have nA: ¬Sw wb ⟨r,f,.slice pa D.P.length pc,l,c⟩ ab:=λq=>by have:=(w.ge q).2;omega
 have tail: ∀(Q:qm) (σ:lm) (u2:U) (h2:H) (vp:Value),σ 0= .pointer (some ⟨wb,0,none⟩)->σ 26= .slice aa a.2.1.length ac->σ 27= .int .i64 (a.2.1.length:Nat)->σ 28= .int .i64 0->
   Wd k0 u2 h2 wb ⟨r,f,vp,l,c⟩ {D with P:=ni D.P a.1}->rG wb ⟨r,f,.slice pa D.P.length pc,l,c⟩ ⟨r,f,vp,l,c⟩ u h u2 h2->
   (∀σ' u' h' vc,Wd k0 u' h' wb ⟨r,f,vp,l,vc⟩ {D with P:=ni D.P a.1,cs:=Zo D.cs a.2.1}->rG wb ⟨r,f,.slice pa D.P.length pc,l,c⟩ ⟨r,f,vp,l,vc⟩ u h u' h'->Q (.exit 0) σ' h')->wpS Rs (.loop Zg) Q σ h2:=by
  intro Q σ u2 h2 vp e0 e26 e27 e28 w2 t2 hQ
  obtain⟨I,hI⟩:=kJ (α:=Nat->lm->H->Prop) λk σ h'=> ∃(u':U) (vc:Value),σ 0= .pointer (some ⟨wb,0,none⟩)/\σ 26= .slice aa a.2.1.length ac/\σ 27= .int .i64 (a.2.1.length:Nat)/\σ 28= .int .i64 k/\k<=a.2.1.length/\Wd k0 u' h' wb ⟨r,f,vp,l,vc⟩ {D with P:=ni D.P a.1,cs:=Zo D.cs (a.2.1.take k)}/\rG wb ⟨r,f,.slice pa D.P.length pc,l,c⟩ ⟨r,f,vp,l,vc⟩ u h u' h'
  refine kH I (λj=>a.2.1.length - j) 0 (by rw[hI];exact⟨u2,c,e0,e26,e27,by rw[e28];rfl,by omega,w2,t2⟩) ?_
  clear e0 e26 e27 e28 w2 t2
  intro k σ h' hi
  rw[hI]at hi
  obtain⟨u',vc,e0,e26,e27,e28,hk,w',st⟩:=hi
  by_cases hlt:k<a.2.1.length
  case neg=>
   rw[aK (by omega)]at w'
   simp(disch:=first|omega|simp only[zz];try omega;done) only[↓reduceIte,go_sem,Zg,e27,e28,au (show¬(k:Int)<(a.2.1.length:Nat) by omega)]
   exact hQ _ _ _ _ w' st
  obtain⟨y,hy⟩: ∃y,a.2.1[k]? =some y:=⟨a.2.1[k],by simp [hlt]⟩
  obtain⟨pb,po,rfl,hpb,hpu,hpz,hpr⟩:=(iv.mono st.st.ge).row k y hy
  rw[mV]at hpr
  simp only[lW,uR,uH,aG,aP]at hpr hpu hpz
  obtain⟨p0,p1',p2',p3'⟩:=hpr
  obtain⟨h5',h6,u6,hh5,hh6,B5,B6,s6,hz6⟩:=kZ u' h' [.int .i64 0,.int .i64 0,str [],.int .i64 0] (lW y) 98 rfl
  simp only[lW]at hh6 B6
  have B51:=B5.1
  have B61:=B6.1
  obtain⟨cb,hcb⟩:=kJ h'.size
  rw[<-hcb]at B5 B51 B6 B61 hh6
  simp(disch:=first|omega|simp only[zz];try omega;done) only[↓reduceIte,go_sem,Zg,e0,e26,e27,e28,af (show(k:Int)<(a.2.1.length:Nat) by omega),p0,p1',p2',p3',<-hcb,<-hh5,<-hh6,B5.2.1,B5.2.2.1,B6.at,B6.2.1]
  have hle:=IJ (l:=a.2.1.take k) (cs:=D.cs)
  rw[aT]at hle
  refine kD (.inr ⟨rfl,u6,k0,wb,⟨r,f,vp,l,vc⟩,_,y,rfl,w'.sZ s6,(by simp only;omega),λu2 h2 v w2 t2=>⟨kY,?_⟩⟩)
  simp(disch:=first|omega|simp only[zz];try omega;done) only[↓reduceIte,go_sem,e28]
  refine⟨k+1,by rw[hI];exact⟨u2,v,by simp [kF,e0],by simp [kF,e26],by simp [kF,e27],by simp [kF],hlt,by rw[abT hy];exact w2,(st.sZ s6).trans t2⟩,by omega⟩
 simp(disch:=first|omega|simp only[zz];try omega;done) only[↓reduceIte,go_sem,<-hh1,<-hab,A1.at,A1.2.1,W1.at,W1.2.1]
 refine kD (.inl ⟨rfl,u1,_,D.P,a.1,rfl,w1.p.iZ,by omega,⟨kY,?_⟩⟩)
 by_cases hm:a.1∈D.P
 ·obtain⟨i,q1,-,-⟩:=oN hm
  rw[q1]
  simp(disch:=first|omega|simp only[zz];try omega;done) only[↓reduceIte,go_sem,A1.at,A1.2.1,au (show¬(i:Int)<0 by omega)]
  refine tail _ _ u1 h1 _ (by simp [kF]) (by simp [kF]) (by simp [kF]) (by simp [kF]) (by unfold ni;rw[ay hm];exact w1) st1 λσ' u' h' vc w' t'=> ?_
  simp(disch:=first|omega|simp only[zz];try omega;done) only[↓reduceIte,go_sem,Vs]
  exact hK _ _ _ _ w' t'
 ·rw[uW hm]
  simp(disch:=first|omega|simp only[zz];try omega;done) only[↓reduceIte,go_sem,A1.at,A1.2.1,W1.at,W1.2.1]
  have hk0:k0<=h1.size:=by have:=w1.wb0;omega
  refine kK (by simp only[]) w1.p (x:=a.1) (by rw[nu]) rfl rfl hk0 (by omega) λa5 n5 c5 u5 h5 o5 s5 hO5=>⟨kY,?_⟩
  obtain⟨w6,t6⟩:=w1.setP o5 s5 hO5
  have W5:=W1.step s5 w1.np
  have W51:=W5.1
  obtain⟨A6,nA6⟩:=w1.keep t6 A1 nA
  have A61:=A6.1
  obtain⟨h6,hh6⟩:=kJ (lh h5 wb 2 (.slice a5 n5 c5))
  rw[<-hh6]at w6 t6 A6 A61
  simp(disch:=first|omega|simp only[zz];try omega;done) only[↓reduceIte,go_sem,W5.2.1,W5.2.2.1,<-hh6,A6.at,A6.2.1]
  refine tail _ _ u5 h6 _ (by simp [kF]) (by simp [kF]) (by simp [kF]) (by simp [kF]) (by unfold ni;rw[ah hm];exact w6) (st1.trans t6) λσ' u' h' vc w' t'=> ?_
  simp(disch:=first|omega|simp only[zz];try omega;done) only[↓reduceIte,go_sem,Vs]
  exact hK _ _ _ _ w' t'
end Go.Proofs.Z
namespace Go.Proofs.Z
open Go Go.Ev Edict
def Rq(vs:List Value)(h:H)(K:Value->H->Prop):Prop:= ∃(u:U) (k0 wb:Nat) (V:WV) (D:WD) (a:lH) (av:Value),vs=[.pointer (some ⟨wb,0,none⟩),.agg #[str a.1,av,.int .i64 a.2.2]]/\Wd k0 u h wb V D/\kM u h av a.2.1/\a.2.1.length<=8/\D.F.length<=1000000/\(∀x∈D.F,x.2.length<=8)/\
 ∀u' h' vf F',Wd k0 u' h' wb {V with f:=vf} {D with F:=F'}->F'.length<=D.F.length+1->(∀x∈F',x.2.length<=8)->rG wb V {V with f:=vf} u h u' h'->K (.tuple #[]) h'
def YM:mG:=λf vs h K _=>(f=67/\Ah vs h K)\/(f=94/\Lf vs h K)
theorem NF:nz Tryz.prog YM:=mK xY (qd abS)
theorem UT{vs:List Value}{h:H}{K:Value->H->Prop}{KP:List PanicEntry->H->Prop}(hC:Rq vs h K):ma Tryz.prog 63 vs h K KP:=by
 obtain⟨u,k0,wb,V,D,a,av,rfl,w,iv,ha8,hF,hF8,hK⟩:=hC
 refine kP 2147514459 [] NF Tryz.func63 (by kernel_rfl) (by conv=>lhs;cbv;try simp only[mF]) ?_
 obtain⟨aa,ac,rfl,-,-⟩:=iv.sl
 obtain⟨r,f,p,l,c⟩:=V
 obtain⟨fa,fc,hp,-,-⟩:=w.f.sl
 simp only at hp
 subst hp
 obtain⟨h1,u1,hh1,zh1,p1,A1⟩:=kL u h [str a.1,.slice aa a.2.1.length ac,.int .i64 a.2.2] 52
 obtain⟨h2',h2,u2,hh2',hh2,F2',F2,s2,hz2⟩:=kZ u1 h1 [str [],.slice none 0 0] [str a.1,.slice none 0 0] 194 rfl
 obtain⟨ab,hab⟩:=kJ h.size
 obtain⟨fb,hfb⟩:=kJ h1.size
 rw[<-hab]at A1
 rw[<-hfb]at F2 F2' hh2
 have A2:=A1.sZ s2
 have A11:=A1.1
 have A21:=A2.1
 have F21:=F2.1
 have F2'1:=F2'.1
 have st2:=p1.tZ s2
 have hwb:=w.B.1
 simp(disch:=first|omega|simp only[zz];try omega;done) only[↓reduceIte,go_sem,<-hh1,<-hab,A1.at,A1.2.1,<-hfb,<-hh2',<-hh2,F2'.2.1,F2'.2.2.1,A2.at,A2.2.1]
 obtain⟨I,hI⟩:=kJ (α:=Nat->lm->H->Prop) λk σ h'=> ∃(u':U) (v:Value),σ 0= .pointer (some ⟨wb,0,none⟩)/\σ 4= .pointer (some ⟨fb,0,none⟩)/\σ 11= .slice aa a.2.1.length ac/\σ 12= .int .i64 (a.2.1.length:Nat)/\σ 13= .int .i64 k/\k<=a.2.1.length/\kG S0 u h u' h'/\kV u' h' fb [str a.1,v]/\mr h.size u' h' v ((a.2.1.take k).map rH)/\ ¬kN v fb
 refine kH I (λj=>a.2.1.length - j) 0 (by rw[hI];exact⟨u2,_,by simp [kF],by simp [kF],by simp [kF],by simp [kF],by simp [kF],by omega,st2,F2,by simpa using mr.nil _ _ _,xE _⟩) ?_
 clear hh1 hh2 hh2' A1 A2 F2 F2' s2 p1 st2
 intro k σ h' hi
 rw[hI]at hi
 obtain⟨u',v,e0,e4,e11,e12,e13,hk,st,B,ow,nv⟩:=hi
 have B1:=B.1
 have w':=w.sZ st
 have W:=w'.B
 have W1:=W.1
 by_cases hlt:k<a.2.1.length
 case neg=>
  rw[aK (by omega)]at ow
  have hlen:(a.2.1.map rH).length=a.2.1.length:=by simp
  obtain⟨va,vc,rfl,-,-⟩:=ow.sl
  rw[hlen]at B ow nv
  simp(disch:=first|omega|simp only[zz];try omega;done) only[↓reduceIte,go_sem,e0,e4,e12,e13,au (show¬(k:Int)<(a.2.1.length:Nat) by omega),B.at,B.2.1,W.at,W.2.1]
  refine kD (.inr ⟨rfl,u',_,D.F,a.1,_,a.2.1.map rH,rfl,w'.f.iZ,ow.iZ,by omega,λx q=>by have:=hF8 x q;omega,λrr u3 h3 s3=>⟨kY,?_⟩⟩)
  have w3:=w'.sZ s3
  have st3:=st.tZ s3
  have B3:=B.sZ s3
  have W3:=w3.B
  have W31:=W3.1
  have B31:=B3.1
  cases rr with
  |true=>
   simp(disch:=first|omega|simp only[zz];try omega;done) only[↓reduceIte,go_sem,Vs]
   exact hK _ _ _ D.F w3 (by omega) hF8 (.of0 st3)
  |false=>
   simp(disch:=first|omega|simp only[zz];try omega;done) only[↓reduceIte,go_sem,e0,e4,B3.at,B3.2.1,W3.at,W3.2.1]
   have hk0:k0<=h3.size:=by have:=w3.wb0;omega
   refine kK (by simp only[]) w3.f (x:=(a.1,a.2.1.map rH)) (by rw[WQ];exact⟨_,rfl,(ow.sZ s3).iZ⟩) rfl rfl hk0 (by omega) λa5 n5 c5 u5 h5 o5 s5 hO5=>⟨kY,?_⟩
   obtain⟨w6,t6⟩:=w3.setF o5 s5 hO5
   have W5:=W3.step s5 w3.nf
   have W51:=W5.1
   simp(disch:=first|omega|simp only[zz];try omega;done) only[↓reduceIte,go_sem,e0,W5.2.1,W5.2.2.1]
   refine hK _ _ _ _ w6 (by simp) (λx q=> ?_) ((rG.of0 st3).trans t6)
   rcases bG.1 q with q|q
   ·exact hF8 x q
   ·rw[bJ.1 q];simp only[aQ];exact ha8
 obtain⟨y,hy⟩: ∃y,a.2.1[k]? =some y:=⟨a.2.1[k],by simp [hlt]⟩
 obtain⟨pb,po,rfl,hpb,hpu,hpz,hpr⟩:=(iv.mono st.ge).row k y hy
 rw[mV]at hpr
 simp only[lW,uR,uH,aG,aP]at hpr hpu hpz
 obtain⟨p0,p1',p2',p3'⟩:=hpr
 obtain⟨h5',h6,u6,hh5,hh6,B5,B6,s6,hz6⟩:=kZ u' h' [.int .i64 0,.int .i64 0,str [],.int .i64 0] (lW y) 98 rfl
 simp only[lW]at hh6 B6
 have B51:=B5.1
 have B61:=B6.1
 obtain⟨cb,hcb⟩:=kJ h'.size
 rw[<-hcb]at B5 B51 B6 B61 hh6
 have F6:=B.sZ s6
 have F61:=F6.1
 have o6:=ow.sZ s6
 obtain⟨va,vc,rfl,-,-⟩:=ow.sl
 simp(disch:=first|omega|simp only[zz];try omega;done) only[↓reduceIte,go_sem,e4,e11,e12,e13,af (show(k:Int)<(a.2.1.length:Nat) by omega),p0,p1',p2',p3',<-hcb,<-hh5,<-hh6,B5.2.1,B5.2.2.1,B6.at,B6.2.1,F6.at,F6.2.1]
 refine kD (.inl ⟨rfl,u6,y,rfl,λu7 h7 s7=> ?_⟩)
 have F7:=F6.sZ s7
 have F71:=F7.1
 have o7:=o6.sZ s7
 refine⟨by simp(disch:=first|omega|simp only[zz];try omega;done) only[↓reduceIte,go_sem,e4,F6.at,F7.at,F7.2.1],?_⟩
 have st7:=(st.tZ s6).tZ s7
 have z7:=st7.ge.sz
 simp(disch:=first|omega|simp only[zz];try omega;done) only[↓reduceIte,go_sem,e4,F7.at,F7.2.1,Sy]
 have hml:((a.2.1.take k).map rH).length<=8:=by rw[aQ,aT];omega
 refine kK (by simp only[]) o7 (x:=rH y) (by rw[IK];rfl) rfl rfl z7 (by omega) λa8 n8 c8 u8 h8 o8 s8 hO8=>⟨kY,?_⟩
 have st8:=st7.own s8 λb q=>o7.ge q
 have F8:=F7.step s8 nv
 have F81:=F8.1
 have nv8: ¬kN (.slice a8 n8 c8) fb:=λq=>by
  rcases hO8 _ q with q|q
  ·exact nv q
  ·omega
 have s9:=kG.set (S:=λb=>b=fb) u8 h8 (b:=fb) (o:=1) (.slice a8 n8 c8) rfl (by rw[F8.2.2.2.1];exact az _)
 simp(disch:=first|omega|simp only[zz];try omega;done) only[↓reduceIte,go_sem,e4,e13,F8.2.1,F8.2.2.1]
 refine⟨k+1,?_,by omega⟩
 rw[hI]
 refine⟨u8,_,by simp [kF,e0],by simp [kF,e4],by simp [kF,e11],by simp [kF,e12],by simp [kF],hlt,st8.own s9 λb q=>by rw[q];omega,F8.set (i:=1) (v:= .slice a8 n8 c8) (by simp),?_,nv8⟩
 have e:(a.2.1.take (k+1)).map rH=(a.2.1.take k).map rH++[rH y]:=by rw[aS,hy];simp
 rw[e]
 exact o8.step s9 λb q e=>nv8 (e▸q)
end Go.Proofs.Z
namespace Go.Ev
open Go Rep Edict
variable {L:List Value} {h':H} {bs:List Nat} {h:H} {x:Nat}
structure Ap (h:H) (bs:List Nat) (L:List Value):Prop where
 apt: ∀(i j:Nat) (v w:Value),L[i]? =some v->L[j]? =some w->i≠j-> ∀b,kN v b-> ¬kN w b
 no: ∀v∈L,∀b∈bs,¬kN v b
 lt: ∀v∈L,∀b,kN v b->b<h.size
 bl: ∀b∈bs,b<h.size
theorem NE(b:Nat): ¬kN (.slice none 0 0) b:=fun⟨o,n,c,e⟩=>by cases e
theorem Ap.set(a:Ap h bs L){i:Nat}{v v':Value}(hv:L[i]? =some v)(hO: ∀b,kN v' b->kN v b\/h.size<=b)(hlt: ∀b,kN v' b->b<h'.size)(hs:h.size<=h'.size):Ap h' bs (L.set i v'):=by
 have hi:=(aJ.1 hv).1
 have hm:=aI hv
 refine⟨λj k x y hx hy hjk b q q'=> ?_,λx hx b hb q=> ?_,λx hx b q=> ?_,λb hb=>bM (a.bl b hb) hs⟩
 ·by_cases hj:j=i
  ·subst hj
   rw[iL hi]at hx
   cases hx
   rw[gH (by omega)]at hy
   rcases hO b q with q|q
   ·exact a.apt _ _ _ _ hv hy hjk b q q'
   ·have:=a.lt y (aI hy) b q';omega
  ·rw[gH (by omega)]at hx
   by_cases hk:k=i
   ·subst hk
    rw[iL hi]at hy
    cases hy
    rcases hO b q' with q2|q2
    ·exact a.apt _ _ _ _ hx hv hjk b q q2
    ·have:=a.lt x (aI hx) b q;omega
   ·rw[gH (by omega)]at hy
    exact a.apt _ _ _ _ hx hy hjk b q q'
 ·rcases jC hx with hx|rfl
  ·exact a.no x hx b hb q
  ·rcases hO b q with q|q
   ·exact a.no v hm b hb q
   ·have:=a.bl b hb;omega
 ·rcases jC hx with hx|rfl
  ·have:=a.lt x hx b q;omega
  ·exact hlt b q
theorem Ap.mono(a:Ap h bs L)(hs:h.size<=h'.size):Ap h' bs L:=⟨a.apt,a.no,λv hv b q=>bM (a.lt v hv b q) hs,λb hb=>bM (a.bl b hb) hs⟩
theorem Ap.nil(a:Ap h bs L):Ap h bs (L++[.slice none 0 0]):=by
 have key: ∀i v,(L++[.slice none 0 0])[i]? =some v-> ∀b,kN v b->L[i]? =some v:=λi v hv b q=>by
  by_cases hi:i<L.length
  ·rw[bi hi]at hv;exact hv
  ·rw[bX (by omega)]at hv
   match i - L.length,hv with
   |0,hv=>cases hv;exact absurd q (NE b)
   |n+1,hv=>simp at hv
 refine⟨λi j v w hv hw hij b q q'=>a.apt i j v w (key i v hv b q) (key j w hw b q') hij b q q',λv hv b hb q=> ?_,λv hv b q=> ?_,a.bl⟩
 all_goals
  rcases bG.1 hv with hv|hv
 ·exact a.no v hv b hb q
 ·rw[bJ.1 hv]at q;exact NE b q
 ·exact a.lt v hv b q
 ·rw[bJ.1 hv]at q;exact absurd q (NE b)
theorem Ap.blk(a:Ap h bs L)(h1:h.size<=x)(h2:x<h'.size):Ap h' (x::bs) L:=
 ⟨a.apt,λv hv b hb q=>by
  rcases bn.1 hb with rfl|hb
  ·have:=a.lt v hv b q;omega
  ·exact a.no v hv b hb q,λv hv b q=>by have:=a.lt v hv b q;omega,λb hb=>by
  rcases bn.1 hb with rfl|hb
  ·exact h2
  ·have:=a.bl b hb;omega⟩
theorem Ap.tail(a:Ap h (x::bs) L):Ap h bs L:=⟨a.apt,λv hv b hb=>a.no v hv b (dI _ hb),a.lt,λb hb=>a.bl b (dI _ hb)⟩
theorem Ap.take{M:List Value}(a:Ap h bs (L++M)):Ap h bs L:=
 ⟨λi j v w hv hw=>a.apt i j v w (by rw[bi (aJ.1 hv).1];exact hv) (by rw[bi (aJ.1 hw).1];exact hw),λv hv=>a.no v (di _ hv),λv hv=>a.lt v (di _ hv),a.bl⟩
theorem FP{u:U}{x:Xe}{cs:List Value}:rep u h x cs=(∃v0 v1 v2 v3 v4,cs=[str x.1.1,v0,.int .i64 x.1.2.2,v1,v2,v3,v4,.int .i64 x.2.2.2.2.2]/\kM u h v0 x.1.2.1/\kM u h v1 x.2.1/\kM u h v2 x.2.2.1/\kM u h v3 x.2.2.2.1/\kM u h v4 x.2.2.2.2.1):=by
 apply propext
 simp only[mO,qK,qi,lD]
 constructor
 ·rintro ⟨_,_,rfl,⟨_,_,rfl,rfl,_,_,rfl,⟨v0,rfl,i0⟩,rfl⟩,_,_,rfl,⟨v1,rfl,i1⟩,_,_,rfl,⟨v2,rfl,i2⟩,_,_,rfl,⟨v3,rfl,i3⟩,_,_,rfl,⟨v4,rfl,i4⟩,rfl⟩
  exact⟨v0,v1,v2,v3,v4,rfl,i0,i1,i2,i3,i4⟩
 ·rintro ⟨v0,v1,v2,v3,v4,rfl,i0,i1,i2,i3,i4⟩
  exact⟨_,_,rfl,⟨_,_,rfl,rfl,_,_,rfl,⟨v0,rfl,i0⟩,rfl⟩,_,_,rfl,⟨v1,rfl,i1⟩,_,_,rfl,⟨v2,rfl,i2⟩,_,_,rfl,⟨v3,rfl,i3⟩,_,_,rfl,⟨v4,rfl,i4⟩,rfl⟩
theorem UR:sz Xe=8:=rfl
end Go.Ev
namespace Go.Proofs.Z
open Go Go.Ev Edict
structure Pd (k0:Nat) (u:U) (h:H) (ob:Nat) (x0 x1 x2 x7 vp vt vn vv:Value) (P:List lH) (T:List lV) (N:List lH) (V:List Nm):Prop where
 B:kV u h ob [x0,x1,x2,vp,vt,vn,vv,x7]
 ob0:k0<=ob
 p:mr k0 u h vp P
 t:mr k0 u h vt T
 n:mr k0 u h vn N
 v:mr k0 u h vv V
 ap:Ap h [ob] [vp,vt,vn,vv]
structure Pe (k0:Nat) (u:U) (h:H) (ob ab:Nat) (x0 x1 x2 x7 y0 y2 vp vt vn vv va:Value) (P:List lH) (T:List lV) (N:List lH) (V:List Nm) (A:List ll):Prop where
 B:kV u h ob [x0,x1,x2,vp,vt,vn,vv,x7]
 C:kV u h ab [y0,va,y2]
 ob0:k0<=ob
 ab0:k0<=ab
 ne:ab≠ob
 p:mr k0 u h vp P
 t:mr k0 u h vt T
 n:mr k0 u h vn N
 v:mr k0 u h vv V
 a:mr k0 u h va A
 ap:Ap h [ab,ob] [vp,vt,vn,vv,va]
section
variable {k0 ob ab:Nat} {u u':U} {h h':H} {x0 x1 x2 x7 y0 y2 vp vt vn vv va w:Value} {P:List lH} {T:List lV} {N:List lH} {V:List Nm} {A:List ll}
theorem Pd.sZ(d:Pd k0 u h ob x0 x1 x2 x7 vp vt vn vv P T N V)(s:kG S0 u h u' h'):Pd k0 u' h' ob x0 x1 x2 x7 vp vt vn vv P T N V:=
 ⟨d.B.sZ s,d.ob0,d.p.sZ s,d.t.sZ s,d.n.sZ s,d.v.sZ s,d.ap.mono s.ge.sz⟩
theorem Pe.sZ(d:Pe k0 u h ob ab x0 x1 x2 x7 y0 y2 vp vt vn vv va P T N V A)(s:kG S0 u h u' h'):Pe k0 u' h' ob ab x0 x1 x2 x7 y0 y2 vp vt vn vv va P T N V A:=
 ⟨d.B.sZ s,d.C.sZ s,d.ob0,d.ab0,d.ne,d.p.sZ s,d.t.sZ s,d.n.sZ s,d.v.sZ s,d.a.sZ s,d.ap.mono s.ge.sz⟩
theorem Pe.pd(d:Pe k0 u h ob ab x0 x1 x2 x7 y0 y2 vp vt vn vv va P T N V A):Pd k0 u h ob x0 x1 x2 x7 vp vt vn vv P T N V:=
 ⟨d.B,d.ob0,d.p,d.t,d.n,d.v,Ap.take (L:=[vp,vt,vn,vv]) (M:=[va]) d.ap.tail⟩
theorem Pd.pe(d:Pd k0 u h ob x0 x1 x2 x7 vp vt vn vv P T N V)(s:kG S0 u h u' h')(C:kV u' h' ab [y0,.slice none 0 0,y2])(ha:h.size<=ab):Pe k0 u' h' ob ab x0 x1 x2 x7 y0 y2 vp vt vn vv (.slice none 0 0) P T N V []:=by
 have:=d.B.1
 have:=d.ob0
 exact⟨d.B.sZ s,C,d.ob0,by omega,by omega,d.p.sZ s,d.t.sZ s,d.n.sZ s,d.v.sZ s,.nil _ _ _,d.ap.nil.blk ha C.1⟩
theorem Pe.setV(d:Pe k0 u h ob ab x0 x1 x2 x7 y0 y2 vp vt vn vv va P T N V A){l:List Nm}(o:mr k0 u' h' w l)(s:kG (kN vv) u h u' h')(hO: ∀b,kN w b->kN vv b\/h.size<=b):
  kV u' h' ob [x0,x1,x2,vp,vt,vn,vv,x7]/\Pe k0 u' (lh h' ob 6 w) ob ab x0 x1 x2 x7 y0 y2 vp vt vn w va P T N l A/\kG (λb=>k0<=b) u h u' (lh h' ob 6 w)/\kG (λb=>b=ob\/kN vv b) u h u' (lh h' ob 6 w):=by
 have a:=d.ap
 have B':=d.B.step s (a.no vv (by simp) ob (by simp))
 have C':=d.C.step s (a.no vv (by simp) ab (by simp))
 have t:=kG.set (S:=λb=>b=ob) u' h' (b:=ob) (o:=6) w rfl (by rw[B'.2.2.2.1];exact az _)
 have a':=a.set (i:=3) (v':=w) (h':=h') rfl hO (λb q=>o.lt q) s.ge.sz
 have st:=(s.mono (S':=λb=>b=ob\/kN vv b) λb _ q=> .inr q).trans t λb _ q=> .inl q
 refine⟨B',⟨B'.set (i:=6) (v:=w) (by simp),C'.step t d.ne,d.ob0,d.ab0,d.ne,(d.p.step s λb q q'=>a.apt 0 3 _ _ rfl rfl (by decide) b q q').step t λb q e=> ?_,(d.t.step s λb q q'=>a.apt 1 3 _ _ rfl rfl (by decide) b q q').step t λb q e=> ?_,(d.n.step s λb q q'=>a.apt 2 3 _ _ rfl rfl (by decide) b q q').step t λb q e=> ?_,o.step t λb q e=> ?_,(d.a.step s λb q q'=>a.apt 4 3 _ _ rfl rfl (by decide) b q q').step t λb q e=> ?_,a'.mono (by rw[qz];exact aH _)⟩,st.mono λb _ q=> ?_,st⟩
 ·exact a.no vp (by simp) ob (by simp) (e▸q)
 ·exact a.no vt (by simp) ob (by simp) (e▸q)
 ·exact a.no vn (by simp) ob (by simp) (e▸q)
 ·exact a'.no w (by simp) ob (by simp) (e▸q)
 ·exact a.no va (by simp) ob (by simp) (e▸q)
 ·rcases q with rfl|q
  ·exact d.ob0
  ·exact d.v.ge q
theorem Pe.setA(d:Pe k0 u h ob ab x0 x1 x2 x7 y0 y2 vp vt vn vv va P T N V A){l:List ll}(o:mr k0 u' h' w l)(s:kG (kN va) u h u' h')(hO: ∀b,kN w b->kN va b\/h.size<=b):
  kV u' h' ab [y0,va,y2]/\Pe k0 u' (lh h' ab 1 w) ob ab x0 x1 x2 x7 y0 y2 vp vt vn vv w P T N V l/\kG (λb=>k0<=b) u h u' (lh h' ab 1 w):=by
 have a:=d.ap
 have B':=d.B.step s (a.no va (by simp) ob (by simp))
 have C':=d.C.step s (a.no va (by simp) ab (by simp))
 have t:=kG.set (S:=λb=>b=ab) u' h' (b:=ab) (o:=1) w rfl (by rw[C'.2.2.2.1];exact az _)
 have a':=a.set (i:=4) (v':=w) (h':=h') rfl hO (λb q=>o.lt q) s.ge.sz
 have st:=(s.mono (S':=λb=>b=ab\/kN va b) λb _ q=> .inr q).trans t λb _ q=> .inl q
 refine⟨C',⟨B'.step t (λe=>d.ne e.symm),C'.set (i:=1) (v:=w) (by simp),d.ob0,d.ab0,d.ne,(d.p.step s λb q q'=>a.apt 0 4 _ _ rfl rfl (by decide) b q q').step t λb q e=> ?_,(d.t.step s λb q q'=>a.apt 1 4 _ _ rfl rfl (by decide) b q q').step t λb q e=> ?_,(d.n.step s λb q q'=>a.apt 2 4 _ _ rfl rfl (by decide) b q q').step t λb q e=> ?_,(d.v.step s λb q q'=>a.apt 3 4 _ _ rfl rfl (by decide) b q q').step t λb q e=> ?_,o.step t λb q e=> ?_,a'.mono (by rw[qz];exact aH _)⟩,st.mono λb _ q=> ?_⟩
 ·exact a.no vp (by simp) ab (by simp) (e▸q)
 ·exact a.no vt (by simp) ab (by simp) (e▸q)
 ·exact a.no vn (by simp) ab (by simp) (e▸q)
 ·exact a.no vv (by simp) ab (by simp) (e▸q)
 ·exact a'.no w (by simp) ab (by simp) (e▸q)
 ·rcases q with rfl|q
  ·exact d.ab0
  ·exact d.a.ge q
theorem Pd.setP(d:Pd k0 u h ob x0 x1 x2 x7 vp vt vn vv P T N V){l:List lH}(o:mr k0 u' h' w l)(s:kG (kN vp) u h u' h')(hO: ∀b,kN w b->kN vp b\/h.size<=b):
  kV u' h' ob [x0,x1,x2,vp,vt,vn,vv,x7]/\Pd k0 u' (lh h' ob 3 w) ob x0 x1 x2 x7 w vt vn vv l T N V/\kG (λb=>k0<=b) u h u' (lh h' ob 3 w):=by
 have a:=d.ap
 have B':=d.B.step s (a.no vp (by simp) ob (by simp))
 have t:=kG.set (S:=λb=>b=ob) u' h' (b:=ob) (o:=3) w rfl (by rw[B'.2.2.2.1];exact az _)
 have a':=a.set (i:=0) (v':=w) (h':=h') rfl hO (λb q=>o.lt q) s.ge.sz
 have st:=(s.mono (S':=λb=>b=ob\/kN vp b) λb _ q=> .inr q).trans t λb _ q=> .inl q
 refine⟨B',⟨B'.set (i:=3) (v:=w) (by simp),d.ob0,o.step t λb q e=> ?_,(d.t.step s λb q q'=>a.apt 1 0 _ _ rfl rfl (by decide) b q q').step t λb q e=> ?_,(d.n.step s λb q q'=>a.apt 2 0 _ _ rfl rfl (by decide) b q q').step t λb q e=> ?_,(d.v.step s λb q q'=>a.apt 3 0 _ _ rfl rfl (by decide) b q q').step t λb q e=> ?_,a'.mono (by rw[qz];exact aH _)⟩,st.mono λb _ q=> ?_⟩
 ·exact a'.no w (by simp) ob (by simp) (e▸q)
 ·exact a.no vt (by simp) ob (by simp) (e▸q)
 ·exact a.no vn (by simp) ob (by simp) (e▸q)
 ·exact a.no vv (by simp) ob (by simp) (e▸q)
 ·rcases q with rfl|q
  ·exact d.ob0
  ·exact d.p.ge q
theorem Pd.setT(d:Pd k0 u h ob x0 x1 x2 x7 vp vt vn vv P T N V){l:List lV}(o:mr k0 u' h' w l)(s:kG (kN vt) u h u' h')(hO: ∀b,kN w b->kN vt b\/h.size<=b):
  kV u' h' ob [x0,x1,x2,vp,vt,vn,vv,x7]/\Pd k0 u' (lh h' ob 4 w) ob x0 x1 x2 x7 vp w vn vv P l N V/\kG (λb=>k0<=b) u h u' (lh h' ob 4 w):=by
 have a:=d.ap
 have B':=d.B.step s (a.no vt (by simp) ob (by simp))
 have t:=kG.set (S:=λb=>b=ob) u' h' (b:=ob) (o:=4) w rfl (by rw[B'.2.2.2.1];exact az _)
 have a':=a.set (i:=1) (v':=w) (h':=h') rfl hO (λb q=>o.lt q) s.ge.sz
 have st:=(s.mono (S':=λb=>b=ob\/kN vt b) λb _ q=> .inr q).trans t λb _ q=> .inl q
 refine⟨B',⟨B'.set (i:=4) (v:=w) (by simp),d.ob0,(d.p.step s λb q q'=>a.apt 0 1 _ _ rfl rfl (by decide) b q q').step t λb q e=> ?_,o.step t λb q e=> ?_,(d.n.step s λb q q'=>a.apt 2 1 _ _ rfl rfl (by decide) b q q').step t λb q e=> ?_,(d.v.step s λb q q'=>a.apt 3 1 _ _ rfl rfl (by decide) b q q').step t λb q e=> ?_,a'.mono (by rw[qz];exact aH _)⟩,st.mono λb _ q=> ?_⟩
 ·exact a.no vp (by simp) ob (by simp) (e▸q)
 ·exact a'.no w (by simp) ob (by simp) (e▸q)
 ·exact a.no vn (by simp) ob (by simp) (e▸q)
 ·exact a.no vv (by simp) ob (by simp) (e▸q)
 ·rcases q with rfl|q
  ·exact d.ob0
  ·exact d.t.ge q
theorem Pd.setN(d:Pd k0 u h ob x0 x1 x2 x7 vp vt vn vv P T N V){l:List lH}(o:mr k0 u' h' w l)(s:kG (kN vn) u h u' h')(hO: ∀b,kN w b->kN vn b\/h.size<=b):
  kV u' h' ob [x0,x1,x2,vp,vt,vn,vv,x7]/\Pd k0 u' (lh h' ob 5 w) ob x0 x1 x2 x7 vp vt w vv P T l V/\kG (λb=>k0<=b) u h u' (lh h' ob 5 w):=by
 have a:=d.ap
 have B':=d.B.step s (a.no vn (by simp) ob (by simp))
 have t:=kG.set (S:=λb=>b=ob) u' h' (b:=ob) (o:=5) w rfl (by rw[B'.2.2.2.1];exact az _)
 have a':=a.set (i:=2) (v':=w) (h':=h') rfl hO (λb q=>o.lt q) s.ge.sz
 have st:=(s.mono (S':=λb=>b=ob\/kN vn b) λb _ q=> .inr q).trans t λb _ q=> .inl q
 refine⟨B',⟨B'.set (i:=5) (v:=w) (by simp),d.ob0,(d.p.step s λb q q'=>a.apt 0 2 _ _ rfl rfl (by decide) b q q').step t λb q e=> ?_,(d.t.step s λb q q'=>a.apt 1 2 _ _ rfl rfl (by decide) b q q').step t λb q e=> ?_,o.step t λb q e=> ?_,(d.v.step s λb q q'=>a.apt 3 2 _ _ rfl rfl (by decide) b q q').step t λb q e=> ?_,a'.mono (by rw[qz];exact aH _)⟩,st.mono λb _ q=> ?_⟩
 ·exact a.no vp (by simp) ob (by simp) (e▸q)
 ·exact a.no vt (by simp) ob (by simp) (e▸q)
 ·exact a'.no w (by simp) ob (by simp) (e▸q)
 ·exact a.no vv (by simp) ob (by simp) (e▸q)
 ·rcases q with rfl|q
  ·exact d.ob0
  ·exact d.n.ge q
end
end Go.Proofs.Z
namespace Go.Ev
open Go Edict
theorem kG.zero{S:Nat->Prop}{u u1 u2:U}{h h1 h2:H}(a:kG S u h u1 h1)(b:kG S0 u1 h1 u2 h2):kG S u h u2 h2:=a.trans b λ_ _ q=>q.elim
end Go.Ev
namespace Go.Proofs.Z
open Go Go.Ev Edict
def Ro:mG:=λf vs h K _=>(f=95/\ach vs h K)\/(f=40/\rz vs h K)
theorem Rp:nz Tryz.prog Ro:=mK Zh (qd oM)
theorem xX: ∀{l:List ll} {w:Nat} {v:List Nm},(lC w v l).2.1.length<=v.length+l.length
 |[],w,v=>by simp [lC]
 |t::l,w,v=>by
  have a: ∀x:Nm,(ni v x).length<=v.length+1:=λx=>CG
  unfold lC
  rw[aM]
  split
  ·split
   ·have:=xX (l:=l) (w:=w+1) (v:=ni v (oO w));have:=a (oO w);simp only;omega
   ·have:=xX (l:=l) (w:=w) (v:=ni v t.2.2.1);have:=a t.2.2.1;simp only;omega
  ·have:=xX (l:=l) (w:=w) (v:=v);simp only;omega
theorem UQ {k0 ob ab:Nat} {u:U} {h:H} {x0 x1 x2 x7 y0 y2 vp vt vn vv:Value} {P:List lH} {T:List lV} {N:List lH} {V:List Nm} {σ0:lm} {Q:qm} {w0:Nat} {l:List ll} {la:Option Addr} {lc:Nat} (d:Pe k0 u h ob ab x0 x1 x2 x7 y0 y2 vp vt vn vv (.slice none 0 0) P T N V [])
  (il:kM u h (.slice la l.length lc) l) (hl:l.length<=8) (hV:V.length<=1000) (hw: ∀j,w0+ng (l.take j)<=16) (hVn:V.Nodup)
  (f3:σ0 3= .pointer (some ⟨ob,0,none⟩)) (f4:σ0 4= .int .i64 w0) (f7:σ0 7= .pointer (some ⟨ab,0,none⟩)) (f39:σ0 39= .slice la l.length lc) (f40:σ0 40= .int .i64 (l.length:Nat)) (f41:σ0 41= .int .i64 0)
  (hQ: ∀σ' u' h' vv' va',(∀i,i<39->i≠4->i≠9->σ' i=σ0 i)->σ' 4= .int .i64 ((lC w0 V l).1:Nat)->Pe k0 u' h' ob ab x0 x1 x2 x7 y0 y2 vp vt vn vv' va' P T N (lC w0 V l).2.1 (lC w0 V l).2.2->kG (λb=>k0<=b) u h u' h'->Q (.exit 3) σ' h'):wpS Ro (.loop JN) Q σ0 h:=by
 obtain⟨I,hI⟩:=kJ (α:=Nat->lm->H->Prop) λk σ h'=> ∃(u':U) (vv' va':Value) (S:Nat×List Nm×List ll),σ 4= .int .i64 (S.1:Nat)/\σ 41= .int .i64 k/\(∀i,i<41->i≠4->i≠9->σ i=σ0 i)/\k<=l.length/\S=lC w0 V (l.take k)/\Pe k0 u' h' ob ab x0 x1 x2 x7 y0 y2 vp vt vn vv' va' P T N S.2.1 S.2.2/\kG (λb=>k0<=b) u h u' h'
 refine kH I (λj=>l.length - j) 0 (by rw[hI];exact⟨u,_,_,_,f4,by rw[f41];rfl,λi _ _ _=>rfl,by omega,rfl,d,.refl _ _ _⟩) ?_
 intro k σ h' hi
 rw[hI]at hi
 obtain⟨u',vv',va',S,e4,e41,eσ,hk,hS,d',st⟩:=hi
 have e3:=(eσ 3 (by omega) (by omega) (by omega)).trans f3
 have e7:=(eσ 7 (by omega) (by omega) (by omega)).trans f7
 have e39:=(eσ 39 (by omega) (by omega) (by omega)).trans f39
 have e40:=(eσ 40 (by omega) (by omega) (by omega)).trans f40
 by_cases hlt:k<l.length
 case neg=>
  rw[aK (by omega)]at hS
  simp(disch:=first|omega|simp only[zz];try omega;done) only[↓reduceIte,go_sem,JN,e40,e41,au (show¬(k:Int)<(l.length:Nat) by omega)]
  subst hS
  exact hQ _ _ _ _ _ (λi a b c=>by simp only[kF];rw[ah (by omega)];exact eσ i (by omega) b c) (by simp [kF,e4]) d' st
 obtain⟨y,hy⟩:=uu hlt
 have hn:=Jg (t:=y) (l:=l.take k) (w:=w0) (v:=V)
 rw[show l.take k++[y]=l.take (k+1) by rw[aS,hy];rfl,<-hS]at hn
 have hSn:S.2.1.Nodup/\S.1=w0+ng (l.take k):=by rw[hS];have:=xA (l:=l.take k) (w:=w0) hVn;exact⟨this.1,this.2.1⟩
 have hw':=hw k
 have hSv:S.2.1.length<=1008:=by
  have:=xX (l:=l.take k) (w:=w0) (v:=V)
  rw[<-hS,aT]at this;omega
 have hSa:S.2.2.length<=8:=by rw[hS,xz,aT];omega
 clear hS
 obtain⟨w,V',A⟩:=S
 simp only at e4 d' hn hSn hSv hSa
 have hw16:w<=16:=by omega
 obtain⟨pb,po,rfl,hpb,hpu,hpz,hpr⟩:=(il.mono st.ge).row k y hy
 rw[mV]at hpr
 simp only[lW,uR,uH,aG,aP]at hpr hpu hpz
 obtain⟨p0,p1',p2',p3'⟩:=hpr
 obtain⟨h5',h6,u6,hh5,hh6,B5,B6,s6,hz6⟩:=kZ u' h' [.int .i64 0,.int .i64 0,str [],.int .i64 0] (lW y) 98 rfl
 simp only[lW]at hh6 B6
 have B51:=B5.1
 have B61:=B6.1
 obtain⟨cb,hcb⟩:=kJ h'.size
 have hcb':h'.size<=cb:=by omega
 rw[<-hcb]at B5 B51 B6 B61 hh6
 have d6:=d'.sZ s6
 have st6:=st.zero s6
 obtain⟨vva,vvc,rfl,-,-⟩:=d'.v.sl
 obtain⟨vaa,vac,rfl,-,-⟩:=d'.a.sl
 have hob:ob<h'.size:=d'.B.1
 have hab:ab<h'.size:=d'.C.1
 have hk0:k0<=h'.size:=by have:=d'.ob0;omega
 -- the end of a round
 have fin: ∀(σ'':lm) (u9:U) (h9:H) (vv9 va9:Value),σ'' 4= .int .i64 ((rR (w,V',A) y).1:Nat)->σ'' 41= .int .i64 ((k:Int)+1)->(∀i,i<41->i≠4->i≠9->σ'' i=σ i)->Pe k0 u9 h9 ob ab x0 x1 x2 x7 y0 y2 vp vt vn vv9 va9 P T N (rR (w,V',A) y).2.1 (rR (w,V',A) y).2.2->kG (λb=>k0<=b) u h u9 h9-> ∃j,I j σ'' h9/\l.length - j<l.length - k:=by
  intro σ'' u9 h9 vv9 va9 g4 g41 gσ d9 st9
  refine⟨k+1,?_,by omega⟩
  rw[hI]
  exact⟨u9,vv9,va9,_,g4,by rw[g41];simp,λi a b c=>(gσ i a b c).trans (eσ i a b c),hlt,hn.symm,d9,st9⟩
 have d61:=d6.B.1
 have d62:=d6.C.1
 by_cases h4:y.1=4
 case neg=>
  simp(disch:=first|omega|simp only[zz];try omega;done) only[↓reduceIte,go_sem,JN,e3,e7,e39,e40,e41,af (show(k:Int)<(l.length:Nat) by omega),p0,p1',p2',p3',<-hcb,<-hh5,<-hh6,B5.2.1,B5.2.2.1,B6.at,B6.2.1,au h4,d6.C.at,d6.C.2.1]
  refine kK (by simp only[]) d6.a (x:=y) (by rw[mV];rfl) rfl rfl (by omega) (by omega) λa8 n8 c8 u8 h8 o8 s8 hO8=>⟨kY,?_⟩
  obtain⟨C8,d9,st9⟩:=d6.setA o8 s8 hO8
  have C81:=C8.1
  simp(disch:=first|omega|simp only[zz];try omega;done) only[↓reduceIte,go_sem,e7,e41,C8.2.1,C8.2.2.1]
  have hp:rR (w,V',A) y=(w,V',A++[y]):=by unfold rR;rw[ah h4]
  refine fin _ u8 _ (.slice vva V'.length vvc) (.slice a8 n8 c8) ?_ ?_ ?_ ?_ (st6.trans st9 λ_ _ q=>q)
  ·rw[hp];simp [kF,e4]
  ·simp [kF]
  ·intro i a b c;simp only[kF];repeat rw[ah (by omega)]
  ·rw[hp];exact d9
 by_cases hwi:y.2.2.1=[95]
 case neg=>
  simp(disch:=first|omega|simp only[zz];try omega;done) only[↓reduceIte,go_sem,JN,e3,e39,e40,e41,af (show(k:Int)<(l.length:Nat) by omega),p0,p1',p2',p3',<-hcb,<-hh5,<-hh6,B5.2.1,B5.2.2.1,B6.at,B6.2.1,af h4,au hwi,d6.B.at,d6.B.2.1]
  refine kD (.inr ⟨rfl,u6,_,V',y.2.2.1,rfl,d6.v.iZ,by omega,⟨kY,?_⟩⟩)
  by_cases hm:y.2.2.1∈V'
  ·obtain⟨i,i1,-,-⟩:=oN hm
   rw[i1]
   simp(disch:=first|omega|simp only[zz];try omega;done) only[↓reduceIte,go_sem,B6.at,B6.2.1,au (show¬(i:Int)<0 by omega),e7,d6.C.at,d6.C.2.1]
   refine kK (by simp only[]) d6.a (x:=y) (by rw[mV];rfl) rfl rfl (by omega) (by omega) λa8 n8 c8 u8 h8 o8 s8 hO8=>⟨kY,?_⟩
   obtain⟨C8,d9,st9⟩:=d6.setA o8 s8 hO8
   have C81:=C8.1
   simp(disch:=first|omega|simp only[zz];try omega;done) only[↓reduceIte,go_sem,e7,e41,C8.2.1,C8.2.2.1]
   have hp:rR (w,V',A) y=(w,V',A++[y]):=by unfold rR;rw[ay h4,ah hwi];unfold ni;rw[ay hm]
   refine fin _ u8 _ (.slice vva V'.length vvc) (.slice a8 n8 c8) ?_ ?_ ?_ ?_ (st6.trans st9 λ_ _ q=>q)
   ·rw[hp];simp [kF,e4]
   ·simp [kF]
   ·intro i a b c;simp only[kF];repeat rw[ah (by omega)]
   ·rw[hp];exact d9
  ·rw[uW hm]
   simp(disch:=first|omega|simp only[zz];try omega;done) only[↓reduceIte,go_sem,B6.at,B6.2.1,d6.B.at,d6.B.2.1,e3]
   refine kK (by simp only[]) d6.v (x:=y.2.2.1) (by rw[nu]) rfl rfl (by omega) (by omega) λa7 n7 c7 u7 h7 o7 s7 hO7=>⟨kY,?_⟩
   obtain⟨B7,d8,st8,st8'⟩:=d6.setV o7 s7 hO7
   have B71:=B7.1
   have T8:=B6.step st8' λq=>by
    rcases q with q|q
    ·omega
    ·have:=d'.v.lt q;omega
   obtain⟨h8,hh8⟩:=kJ (lh h7 ob 6 (.slice a7 n7 c7))
   rw[<-hh8]at d8 st8 T8
   have T81:=T8.1
   have d81:=d8.C.1
   simp(disch:=first|omega|simp only[zz];try omega;done) only[↓reduceIte,go_sem,e3,B7.2.1,B7.2.2.1,<-hh8,T8.at,T8.2.1,e7,d8.C.at,d8.C.2.1]
   refine kK (by simp only[]) d8.a (x:=y) (by rw[mV];rfl) rfl rfl (by have:=d8.ob0;have:=d8.B.1;omega) (by omega) λa9 n9 c9 u9 h9 o9 s9 hO9=>⟨kY,?_⟩
   obtain⟨C9,d10,st10⟩:=d8.setA o9 s9 hO9
   have C91:=C9.1
   simp(disch:=first|omega|simp only[zz];try omega;done) only[↓reduceIte,go_sem,e7,e41,C9.2.1,C9.2.2.1]
   have hp:rR (w,V',A) y=(w,V'++[y.2.2.1],A++[y]):=by unfold rR;rw[ay h4,ah hwi];unfold ni;rw[ah hm]
   refine fin _ u9 _ (.slice a7 n7 c7) (.slice a9 n9 c9) ?_ ?_ ?_ ?_ ((st6.trans st8 λ_ _ q=>q).trans st10 λ_ _ q=>q)
   ·rw[hp];simp [kF,e4]
   ·simp [kF]
   ·intro i a b c;simp only[kF];repeat rw[ah (by omega)]
   ·rw[hp];exact d10
 case pos=>
  have hwl:(w:Int)<=16:=by omega
  simp(disch:=first|omega|simp only[zz];try omega;done) only[↓reduceIte,go_sem,JN,e4,e39,e40,e41,af (show(k:Int)<(l.length:Nat) by omega),p0,p1',p2',p3',<-hcb,<-hh5,<-hh6,B5.2.1,B5.2.2.1,B6.at,B6.2.1,af h4,af hwi]
  refine kD (.inl ⟨rfl,w,rfl,by omega,⟨kY,?_⟩⟩)
  have s7:=kG.set (S:=λb=>b=cb) u6 h6 (b:=cb) (o:=2) (str (oO w)) rfl (by rw[B6.2.2.2.1];exact az _)
  have s67:=s6.own s7 λb q=>by rw[q];exact hcb'
  have T7:=B6.set (i:=2) (v:=str (oO w)) (by simp)
  obtain⟨h7,hh7⟩:=kJ (lh h6 cb 2 (str (oO w)))
  rw[<-hh7]at s67 T7
  simp only[cZ,bP]at T7
  have T71:=T7.1
  have d7:=d'.sZ s67
  have st7:=st.zero s67
  have d71:=d7.B.1
  have d72:=d7.C.1
  simp(disch:=first|omega|simp only[zz];try omega;done) only[↓reduceIte,go_sem,e4,B6.2.1,B6.2.2.1,<-hh7,T7.at,T7.2.1,af h4,e3,d7.B.at,d7.B.2.1]
  refine kD (.inr ⟨rfl,u6,_,V',oO w,rfl,d7.v.iZ,by omega,⟨kY,?_⟩⟩)
  by_cases hm:oO w∈V'
  ·obtain⟨i,i1,-,-⟩:=oN hm
   rw[i1]
   simp(disch:=first|omega|simp only[zz];try omega;done) only[↓reduceIte,go_sem,T7.at,T7.2.1,au (show¬(i:Int)<0 by omega),e7,d7.C.at,d7.C.2.1]
   refine kK (by simp only[]) d7.a (x:=(y.1,y.2.1,oO w,y.2.2.2)) (by rw[mV];rfl) rfl rfl (by have:=d7.ob0;omega) (by omega) λa8 n8 c8 u8 h8 o8 s8 hO8=>⟨kY,?_⟩
   obtain⟨C8,d9,st9⟩:=d7.setA o8 s8 hO8
   have C81:=C8.1
   simp(disch:=first|omega|simp only[zz];try omega;done) only[↓reduceIte,go_sem,e7,e41,C8.2.1,C8.2.2.1]
   have hp:rR (w,V',A) y=(w+1,V',A++[(y.1,y.2.1,oO w,y.2.2.2)]):=by unfold rR;rw[ay h4,ay hwi];unfold ni;rw[ay hm]
   refine fin _ u8 _ (.slice vva V'.length vvc) (.slice a8 n8 c8) ?_ ?_ ?_ ?_ (st7.trans st9 λ_ _ q=>q)
   ·rw[hp];simp [kF]
   ·simp [kF]
   ·intro i a b c;simp only[kF];repeat rw[ah (by omega)]
   ·rw[hp];exact d9
  ·rw[uW hm]
   simp(disch:=first|omega|simp only[zz];try omega;done) only[↓reduceIte,go_sem,T7.at,T7.2.1,d7.B.at,d7.B.2.1,e3]
   refine kK (by simp only[]) d7.v (x:=oO w) (by rw[nu]) rfl rfl (by have:=d7.ob0;omega) (by omega) λa7 n7 c7 u7 h7 o7 s7 hO7=>⟨kY,?_⟩
   obtain⟨B7,d8,st8,st8'⟩:=d7.setV o7 s7 hO7
   have B71:=B7.1
   have T8:=T7.step st8' λq=>by
    rcases q with q|q
    ·omega
    ·have:=d'.v.lt q;omega
   obtain⟨h8,hh8⟩:=kJ (lh h7 ob 6 (.slice a7 n7 c7))
   rw[<-hh8]at d8 st8 T8
   have T81:=T8.1
   have d81:=d8.C.1
   simp(disch:=first|omega|simp only[zz];try omega;done) only[↓reduceIte,go_sem,e3,B7.2.1,B7.2.2.1,<-hh8,T8.at,T8.2.1,e7,d8.C.at,d8.C.2.1]
   refine kK (by simp only[]) d8.a (x:=(y.1,y.2.1,oO w,y.2.2.2)) (by rw[mV];rfl) rfl rfl (by have:=d8.ob0;have:=d8.B.1;omega) (by omega) λa9 n9 c9 u9 h9 o9 s9 hO9=>⟨kY,?_⟩
   obtain⟨C9,d10,st10⟩:=d8.setA o9 s9 hO9
   have C91:=C9.1
   simp(disch:=first|omega|simp only[zz];try omega;done) only[↓reduceIte,go_sem,e7,e41,C9.2.1,C9.2.2.1]
   have hp:rR (w,V',A) y=(w+1,V'++[oO w],A++[(y.1,y.2.1,oO w,y.2.2.2)]):=by unfold rR;rw[ay h4,ay hwi];unfold ni;rw[ah hm]
   refine fin _ u9 _ (.slice a7 n7 c7) (.slice a9 n9 c9) ?_ ?_ ?_ ?_ ((st7.trans st8 λ_ _ q=>q).trans st10 λ_ _ q=>q)
   ·rw[hp];simp [kF]
   ·simp [kF]
   ·intro i a b c;simp only[kF];repeat rw[ah (by omega)]
   ·rw[hp];exact d10
end Go.Proofs.Z
namespace Edict
def IE(m:List lV):List lV:=m.filter λl=>decide (l.1≠1) && decide (l.1≠2)
def EK(m:List lV):List lH:=(m.filter λl=>decide (l.1=2)).map λl=>l.2.1
end Edict
namespace Go.Ev
open Go Rep
theorem mr.okc{α:Type} [Rep α]{k:Nat}{u:U}{h:H}{v:Value}{l:List α}(o:mr k u h v l):mg v=true:=by
 obtain⟨a,c,rfl,-,-⟩:=o.sl
 rfl
theorem kM.okc{α:Type} [Rep α]{u:U}{h:H}{v:Value}{l:List α}(o:kM u h v l):mg v=true:=by
 obtain⟨a,c,rfl,-,-⟩:=o.sl
 rfl
end Go.Ev
namespace Go.Proofs.Z
open Go Go.Ev Edict
def IG(vs:List Value)(h:H)(K:Value->H->Prop):Prop:= ∃(u:U) (c:kX) (v w:Value),vs=[.agg #[str c.1.1,v,.int .i64 c.1.2.2,w]]/\kM u h v c.1.2.1/\kM u h w c.2/\mH c/\uz c/\ ∀u' h' v1 v2 v3 v4,kG S0 u h u' h'->kM u' h' v1 (qP c).2.1->kM u' h' v2 (qP c).2.2.1->kM u' h' v3 (qP c).2.2.2.1->kM u' h' v4 (qP c).2.2.2.2.1->K (.agg #[str c.1.1,v,.int .i64 c.1.2.2,v1,v2,v3,v4,.int .i64 (c.2.length:Nat)]) h'
theorem JE{vs:List Value}{h:H}{K:Value->H->Prop}{KP:List PanicEntry->H->Prop}(hC:IG vs h K):ma Tryz.prog 64 vs h K KP:=by
 obtain⟨u,c,v,w,rfl,iv,iw,hf,hb,hK⟩:=hC
 refine kP 618970314795107164933194463 [((some (.c1 (.ldn 8) (.t 2))),(.o1 (.ldn 8) (.t 2)))] Rp Tryz.func64 (by kernel_rfl) (by conv=>lhs;cbv;try simp only[mF]) ?_
 obtain⟨va,vc,rfl,-,-⟩:=iv.sl
 obtain⟨wa,wc,rfl,-,-⟩:=iw.sl
 have h16:=hf.2.1
 obtain⟨h1,u1,hh1,zh1,p1,A1⟩:=kL u h [str c.1.1,.slice va c.1.2.1.length vc,.int .i64 c.1.2.2,.slice wa c.2.length wc] 147
 obtain⟨h2,u2,hh2,zh2,p2,R2⟩:=kL u1 h1 [str [],.slice none 0 0,.int .i64 0,.slice none 0 0,.slice none 0 0,.slice none 0 0,.slice none 0 0,.int .i64 0] 56
 obtain⟨h3',h3,u3,hh3',hh3,B3',B3,s3,hz3⟩:=kZ u2 h2 [str [],.slice none 0 0,.int .i64 0,.slice none 0 0,.slice none 0 0,.slice none 0 0,.slice none 0 0,.int .i64 0] [str c.1.1,.slice va c.1.2.1.length vc,.int .i64 c.1.2.2,.slice none 0 0,.slice none 0 0,.slice none 0 0,.slice none 0 0,.int .i64 (c.2.length:Nat)] 56 rfl
 obtain⟨ab,hab⟩:=kJ h.size
 obtain⟨rb,hrb⟩:=kJ h1.size
 obtain⟨ob,hob⟩:=kJ h2.size
 rw[<-hab]at A1
 rw[<-hrb]at R2
 rw[<-hob]at B3 B3' hh3
 have A2:=A1.sZ p2
 have A3:=A2.sZ s3
 have R3:=R2.sZ s3
 have A21:=A2.1
 have A31:=A3.1
 have B31:=B3.1
 have B3'1:=B3'.1
 have st3:=(p1.tZ p2).tZ s3
 simp(disch:=first|omega|simp only[zz];try omega;done) only[↓reduceIte,go_sem,<-hh1,<-hab,<-hh2,<-hrb,<-hob,A2.at,A2.2.1,<-hh3',<-hh3,B3'.2.1,B3'.2.2.1,A3.at,A3.2.1]
 have d3:Pd ob u3 h3 ob (str c.1.1) (.slice va c.1.2.1.length vc) (.int .i64 c.1.2.2) (.int .i64 (c.2.length:Nat)) (.slice none 0 0) (.slice none 0 0) (.slice none 0 0) (.slice none 0 0) [] [] [] []:=
  ⟨B3,aH _,.nil _ _ _,.nil _ _ _,.nil _ _ _,.nil _ _ _,(Ap.nil (Ap.nil (Ap.nil (Ap.nil (L:=[]) ⟨λi j v w q=>by simp at q,λv q=>(by cases q),λv q=>(by cases q),λb q=>by rw[bJ.1 q];exact B31⟩))))⟩
 have hrb':rb<ob:=by omega
 have hob':h.size<=ob:=by omega
 obtain⟨I,hI⟩: ∃I:Nat->lm->H->Prop,I=λk σ h'=> ∃(u':U) (vp vt vn vv:Value),σ 2= .pointer (some ⟨rb,0,none⟩)/\σ 3= .pointer (some ⟨ob,0,none⟩)/\σ 4= .int .i64 (qQ 0 [] (c.2.take k):Nat)/\σ 17= .slice wa c.2.length wc/\σ 18= .int .i64 (c.2.length:Nat)/\σ 19= .int .i64 k/\k<=c.2.length/\kG S0 u h u' h'/\kV u' h' rb [str [],.slice none 0 0,.int .i64 0,.slice none 0 0,.slice none 0 0,.slice none 0 0,.slice none 0 0,.int .i64 0]/\
  Pd ob u' h' ob (str c.1.1) (.slice va c.1.2.1.length vc) (.int .i64 c.1.2.2) (.int .i64 (c.2.length:Nat)) vp vt vn vv (lU 0 [] (c.2.take k)).2 (IE (c.2.take k)) (EK (c.2.take k)) (lU 0 [] (c.2.take k)).1:=⟨_,rfl⟩
 refine kH I (λj=>c.2.length - j) 0 (by rw[hI];exact⟨u3,_,_,_,_,by simp [kF],by simp [kF],by simp [kF,qQ],by simp [kF],by simp [kF],by simp [kF],by omega,st3,R3,d3⟩) ?_
 clear hh1 hh2 hh3 hh3' A1 A2 A3 A21 A31 B3 B3' B31 B3'1 R2 R3 d3 p1 p2 s3 st3
 intro k σ h' hi
 rw[hI]at hi
 obtain⟨u',vp,vt,vn,vv,e2,e3,e4,e17,e18,e19,hk,st,R,d⟩:=hi
 have R1:=R.1
 have d1:=d.B.1
 by_cases hlt:k<c.2.length
 case neg=>
  rw[aK (by omega)]at d
  have sR:=kG.sets (S:=λb=>b=rb) u' h' (b:=rb) (o:=0) [str c.1.1,.slice va c.1.2.1.length vc,.int .i64 c.1.2.2,vp,vt,vn,vv,.int .i64 (c.2.length:Nat)] rfl (by rw[R.2.2.2.1];exact az _) (by rw[R.2.1];exact aH _)
  have RH:=R.sets (l:=[str c.1.1,.slice va c.1.2.1.length vc,.int .i64 c.1.2.2,vp,vt,vn,vv,.int .i64 (c.2.length:Nat)]) rfl
  obtain⟨h9,hh9⟩:=kJ (kU h' rb 0 [str c.1.1,.slice va c.1.2.1.length vc,.int .i64 c.1.2.2,vp,vt,vn,vv,.int .i64 (c.2.length:Nat)])
  rw[<-hh9]at sR RH
  have RH1:=RH.1
  have hK:=hK _ _ _ _ _ _ (st.own sR λb q=>by rw[q];omega) (d.p.iZ.mono sR.ge) (d.t.iZ.mono sR.ge) (d.n.iZ.mono sR.ge) (d.v.iZ.mono sR.ge)
  simp(disch:=first|omega|simp only[zz];try omega;done) only[↓reduceIte,go_sem,e2,e3,e18,e19,au (show¬(k:Int)<(c.2.length:Nat) by omega),d.B.at,d.B.2.1,R.2.1,R.2.2.1,d.p.okc,d.t.okc,d.n.okc,d.v.okc,<-hh9,RH.at,RH.2.1]
  exact hK
 obtain⟨y,hy⟩: ∃y,c.2[k]? =some y:=⟨c.2[k],by simp [hlt]⟩
 have hsn:c.2.take (k+1)=c.2.take k++[y]:=by rw[aS,hy];rfl
 have nP:=BL (l:=y) (m:=c.2.take k) (w:=0) (v:=[])
 have nW:=BM (l:=y) (m:=c.2.take k) (w:=0) (v:=[])
 have nT:IE (c.2.take k++[y])=if y.1≠1/\y.1≠2 then IE (c.2.take k)++[y]else IE (c.2.take k):=by
  unfold IE;rw[fe];simp only[eG,iU,bA,bf];split<;>simp
 have nN:EK (c.2.take k++[y])=if y.1=2 then EK (c.2.take k)++[y.2.1]else EK (c.2.take k):=by
  unfold EK;rw[fe,eD];simp only[eG,iU,bf];split<;>simp
 rw[<-hsn]at nP nW nT nN
 have hyf:=hf.2.2 y (aI hy)
 have hkl:k<16:=by omega
 obtain⟨pb,po,rfl,hpb,hpu,hpz,hpr⟩:=(iw.mono st.ge).row k y hy
 rw[tQ]at hpr
 obtain⟨yv,hpr,iyv⟩:=hpr
 obtain⟨ya,yc,rfl,-,-⟩:=iyv.sl
 simp only[nL,yS,xF,aG,aP]at hpr hpu hpz
 obtain⟨q0,q1,q2,q3,q4,q5,q6,q7,q8,q9,q10,q11,q12,q13⟩:=hpr
 obtain⟨h5',h6,u6,hh5,hh6,B5,B6,s6,hz6⟩:=kZ u' h' [.int .i64 0,str [],.slice none 0 0,.int .i64 0,.int .i64 0,.int .i64 0,.int .i64 0,str [],.int .i64 0,.int .i64 0,.int .i64 0,str [],.int .i64 0,.int .i64 0] (nL y (.slice ya y.2.1.2.1.length yc)) 100 rfl
 simp only[nL]at hh6 B6
 have B51:=B5.1
 have B61:=B6.1
 obtain⟨cb,hcb⟩:=kJ h'.size
 rw[<-hcb]at B5 B51 B6 B61 hh6
 have d6:=d.sZ s6
 have R6:=R.sZ s6
 have st6:=st.tZ s6
 have iy6:=iyv.mono s6.ge
 have d61:=d6.B.1
 have hob6:ob<=h6.size:=by omega
 have lp:(lU 0 [] (c.2.take k)).2.length<=16/\(IE (c.2.take k)).length<=16/\(EK (c.2.take k)).length<=16:=by
  have a:(c.2.take k).length<=16:=by rw[aT];omega
  refine⟨?_,?_,?_⟩
  ·have: ∀(m:List lV) (w:Nat) (v:List Nm),(lU w v m).2.length<=m.length:=by
    intro m
    induction m with
    |nil=>intro w v;exact aH _
    |cons l m ih=>
     intro w v;unfold lU;split
     ·have:=ih (lC w v l.2.1.2.1).1 (lC w v l.2.1.2.1).2.1;simp only[aM];omega
     ·have:=ih w v;simp only[aM];omega
   exact aY (this _ _ _) a
  ·exact aY (dR _ _) a
  ·unfold EK;rw[aQ];exact aY (dR _ _) a
 have fin: ∀(σ'':lm) (u9:U) (h9:H) (vp9 vt9 vn9 vv9:Value),σ'' 4= .int .i64 (qQ 0 [] (c.2.take (k+1)):Nat)->σ'' 19= .int .i64 ((k:Int)+1)->(∀i,i<19->i≠4->i≠6->i≠7->i≠9->σ'' i=σ i)->kG S0 u h u9 h9->kV u9 h9 rb [str [],.slice none 0 0,.int .i64 0,.slice none 0 0,.slice none 0 0,.slice none 0 0,.slice none 0 0,.int .i64 0]->
   Pd ob u9 h9 ob (str c.1.1) (.slice va c.1.2.1.length vc) (.int .i64 c.1.2.2) (.int .i64 (c.2.length:Nat)) vp9 vt9 vn9 vv9 (lU 0 [] (c.2.take (k+1))).2 (IE (c.2.take (k+1))) (EK (c.2.take (k+1))) (lU 0 [] (c.2.take (k+1))).1-> ∃j,I j σ'' h9/\c.2.length - j<c.2.length - k:=by
  intro σ'' u9 h9 vp9 vt9 vn9 vv9 g4 g19 gσ st9 R9 d9
  refine⟨k+1,?_,by omega⟩
  rw[hI]
  exact⟨u9,vp9,vt9,vn9,vv9,(gσ 2 (by omega) (by omega) (by omega) (by omega) (by omega)).trans e2,(gσ 3 (by omega) (by omega) (by omega) (by omega) (by omega)).trans e3,g4,(gσ 17 (by omega) (by omega) (by omega) (by omega) (by omega)).trans e17,(gσ 18 (by omega) (by omega) (by omega) (by omega) (by omega)).trans e18,by rw[g19];simp,hlt,st9,R9,d9⟩
 have e17':σ 17= .slice (some ⟨pb,po,none⟩) c.2.length wc:=e17
 by_cases h1:y.1=1
 case pos=>
  obtain⟨h7',h7,u7,hh7',hh7,A7',A7,s7,hz7⟩:=kZ u6 h6 [str [],.slice none 0 0,.int .i64 0] [str y.2.1.1,.slice none 0 0,.int .i64 0] 52 rfl
  obtain⟨ab,hab⟩:=kJ h6.size
  rw[<-hab]at A7' A7 hh7
  have A71:=A7.1
  have A7'1:=A7'.1
  have B7:=B6.sZ s7
  have B71:=B7.1
  have e7:=d6.pe s7 A7 (by omega)
  have st7:=st6.tZ s7
  have iy7:=iy6.mono s7.ge
  obtain⟨hVn,hVl⟩:(lU 0 [] (c.2.take k)).1.Nodup/\(lU 0 [] (c.2.take k)).1.length<=128:=by
   refine⟨(CU (m:=c.2.take k) (w:=0) (v:=[]) (by simp)).1,?_⟩
   obtain⟨B,hB⟩:=xy (m:=c.2.drop k) (w:=qQ 0 [] (c.2.take k)) (v:=(lU 0 [] (c.2.take k)).1)
   have key: ∀(m n:List lV) (w:Nat) (v:List Nm),(lU w v (m++n)).1=(lU (qQ w v m) (lU w v m).1 n).1:=by
    intro m
    induction m with
    |nil=>intro n w v;rfl
    |cons l m ih=>intro n w v;rw[bO];by_cases hx:l.1=1<;>simp only[lU,qQ,hx,dx,bZ]<;>exact ih _ _ _
   have hv:=FU hb
   rw[<-dC k c.2,key,hB,aN]at hv
   omega
  have hwj: ∀j,qQ 0 [] (c.2.take k)+ng (y.2.1.2.1.take j)<=16:=λj=>by
   rw[Jh (by simp),bY]
   exact Ve hy h1 hb
  simp(disch:=first|omega|simp only[zz];try omega;done) only[↓reduceIte,go_sem,e17,e18,e19,af (show(k:Int)<(c.2.length:Nat) by omega),q0,q1,q2,q3,q4,q5,q6,q7,q8,q9,q10,q11,q12,q13,<-hcb,<-hh5,<-hh6,B5.2.1,B5.2.2.1,B6.at,B6.2.1,af h1,<-hab,<-hh7',<-hh7,A7'.2.1,A7'.2.2.1,B7.at,B7.2.1]
  refine UQ e7 iy7 hyf.1 (by omega) hwj hVn (by simp [kF,e3]) (by simp [kF,e4]) (by simp [kF]) (by simp [kF]) (by simp [kF]) (by simp [kF]) λσ8 u8 h8 vv8 va8 hσ8 g4 d8 st8=> ?_
  have g3:σ8 3= .pointer (some ⟨ob,0,none⟩):=(hσ8 3 (by omega) (by omega) (by omega)).trans (by simp [kF,e3])
  have g7:σ8 7= .pointer (some ⟨ab,0,none⟩):=(hσ8 7 (by omega) (by omega) (by omega)).trans (by simp [kF])
  have g19:σ8 19= .int .i64 k:=(hσ8 19 (by omega) (by omega) (by omega)).trans (by simp [kF,e19])
  have d81:=d8.B.1
  have C81:=d8.C.1
  have st8':=st7.own st8 λb q=>aY hob' q
  have R8:=(R6.sZ s7).step st8 (λq=>by omega)
  have p8:=d8.pd
  simp(disch:=first|omega|simp only[zz];try omega;done) only[↓reduceIte,go_sem,g3,g7,d8.B.at,d8.B.2.1,d8.C.at,d8.C.2.1]
  refine kK (by simp only[]) p8.p (x:=(y.2.1.1,(lC (qQ 0 [] (c.2.take k)) (lU 0 [] (c.2.take k)).1 y.2.1.2.1).2.2,0)) (by rw[oK];exact⟨_,rfl,d8.a.iZ⟩) rfl rfl (by omega) (by omega) λa9 n9 c9 u9 h9 o9 s9 hO9=>⟨kY,?_⟩
  obtain⟨C9,d9,st9⟩:=p8.setP o9 s9 hO9
  have C91:=C9.1
  simp(disch:=first|omega|simp only[zz];try omega;done) only[↓reduceIte,go_sem,g3,g19,C9.2.1,C9.2.2.1]
  rw[ay h1]at nP nW
  rw[ah (λq=>q.1 h1)]at nT
  rw[ah (λq=>by omega)]at nN
  refine fin _ u9 _ (.slice a9 n9 c9) vt vn vv8 (by rw[nW];simp [kF,g4]) (by simp [kF]) (λi a b c d e=> ?_) (st8'.own st9 λb q=>aY hob' q) (R8.step st9 (λq=>by omega)) (by rw[nP,nT,nN];exact d9)
  simp only[kF]
  repeat rw[ah (by omega)]
  rw[hσ8 i (by omega) b e]
  simp only[kF]
  repeat rw[ah (by omega)]
 by_cases h2:y.1=2
 case pos=>
  simp(disch:=first|omega|simp only[zz];try omega;done) only[↓reduceIte,go_sem,e3,e17,e18,e19,af (show(k:Int)<(c.2.length:Nat) by omega),q0,q1,q2,q3,q4,q5,q6,q7,q8,q9,q10,q11,q12,q13,<-hcb,<-hh5,<-hh6,B5.2.1,B5.2.2.1,B6.at,B6.2.1,au h1,af h2,d6.B.at,d6.B.2.1]
  refine kK (by simp only[]) d6.n (x:=y.2.1) (by rw[oK];exact⟨_,rfl,iy6⟩) rfl rfl hob6 (by omega) λa8 n8 c8 u8 h8 o8 s8 hO8=>⟨kY,?_⟩
  obtain⟨C8,d9,st9⟩:=d6.setN o8 s8 hO8
  have C81:=C8.1
  simp(disch:=first|omega|simp only[zz];try omega;done) only[↓reduceIte,go_sem,e3,e19,C8.2.1,C8.2.2.1]
  rw[ah h1]at nP nW
  rw[ah (λq=>q.2 h2)]at nT
  rw[ay h2]at nN
  refine fin _ u8 _ vp vt (.slice a8 n8 c8) vv (by rw[nW];simp [kF,e4]) (by simp [kF]) (λi a b c d e=>by simp only[kF];repeat rw[ah (by omega)]) (st6.own st9 λb q=>aY hob' q) (R6.step st9 (λq=>by omega)) (by rw[nP,nT,nN];exact d9)
 ·simp(disch:=first|omega|simp only[zz];try omega;done) only[↓reduceIte,go_sem,e3,e17,e18,e19,af (show(k:Int)<(c.2.length:Nat) by omega),q0,q1,q2,q3,q4,q5,q6,q7,q8,q9,q10,q11,q12,q13,<-hcb,<-hh5,<-hh6,B5.2.1,B5.2.2.1,B6.at,B6.2.1,au h1,au h2,d6.B.at,d6.B.2.1]
  refine kK (by simp only[]) d6.t (x:=y) (by rw[tQ];exact⟨_,rfl,iy6⟩) rfl rfl hob6 (by omega) λa8 n8 c8 u8 h8 o8 s8 hO8=>⟨kY,?_⟩
  obtain⟨C8,d9,st9⟩:=d6.setT o8 s8 hO8
  have C81:=C8.1
  simp(disch:=first|omega|simp only[zz];try omega;done) only[↓reduceIte,go_sem,e3,e19,C8.2.1,C8.2.2.1]
  rw[ah h1]at nP nW
  rw[ay ⟨h1,h2⟩]at nT
  rw[ah h2]at nN
  refine fin _ u8 _ vp (.slice a8 n8 c8) vn vv (by rw[nW];simp [kF,e4]) (by simp [kF]) (λi a b c d e=>by simp only[kF];repeat rw[ah (by omega)]) (st6.own st9 λb q=>aY hob' q) (R6.step st9 (λq=>by omega)) (by rw[nP,nT,nN];exact d9)
variable {P:List Nm} {Pv:Value} {Q:qm} {b:Nat} {h:H} {hd:Nm} {l:List lH} {la:Option Addr} {lb lc:Nat} {lv:List Nat} {m n:Nat} {p:List kX} {u:U} {wb:Nat} {x0 x1 x3 x4:Value} {σ0:lm}
def Rk(lv:List Nat):List Value:=lv.map λx=> .int .i64 (x:Nat)
theorem IC(B:kV u h b (Rk lv)){i x:Nat}(hx:lv[i]? =some x):Go.Ev.hv h b i= .int .i64 (x:Nat)/\i<hsz h b:=by
 have hi:=(aJ.1 hx).1
 have hl:(Rk lv).length=lv.length:=by simp [Rk]
 refine⟨?_,by rw[B.2.1,hl];exact hi⟩
 exact B.2.2.2.2 i _ (by simp only[Rk,aR,hx];rfl)
def Bz:mG:=λf vs h K _=>f=40/\rz vs h K
theorem JD:nz Tryz.prog Bz:=qd oM
theorem YK (W:kV u h wb [x0,x1,Pv,x3,x4]) (iP:kM u h Pv P) (L:kV u h lb (Rk lv)) (hlv:CX p P lv) (hn:lv.length=n) (hb: ∀x∈lv,x<=1000000) (hP:P.length<=1000000)
  (il:kM u h (.slice la l.length lc) l) (hl:l.length<=1000000) (hm:NW p m hd) (hx: ∀a∈l,a.1∈P/\ ∀k,NW p k a.1->NW p k hd)
  (f0:σ0 0= .pointer (some ⟨wb,0,none⟩)) (f3:σ0 3= .slice (some ⟨lb,0,none⟩) n n) (f8:σ0 8= .int .i64 m) (f42:σ0 42= .slice la l.length lc) (f43:σ0 43= .int .i64 (l.length:Nat)) (f44:σ0 44= .int .i64 0)
  (hQ: ∀σ' u' h' m',(∀i,i<44->i≠8->i≠10->σ' i=σ0 i)->σ' 8= .int .i64 (m':Nat)->NW p m' hd->kG S0 u h u' h'->Q (.exit 4) σ' h'):wpS Bz (.loop Sm) Q σ0 h:=by
 obtain⟨I,hI⟩:=kJ (α:=Nat->lm->H->Prop) λk σ h'=> ∃(u':U) (m':Nat),σ 8= .int .i64 (m':Nat)/\σ 44= .int .i64 k/\(∀i,i<44->i≠8->i≠10->σ i=σ0 i)/\k<=l.length/\NW p m' hd/\kG S0 u h u' h'
 refine kH I (λj=>l.length - j) 0 (by rw[hI];exact⟨u,m,f8,by rw[f44];rfl,λi _ _ _=>rfl,by omega,hm,.refl _ _ _⟩) ?_
 intro k σ h' hi
 rw[hI]at hi
 obtain⟨u',m',e8,e44,eσ,hk,hm',st⟩:=hi
 have e0:=(eσ 0 (by omega) (by omega) (by omega)).trans f0
 have e3:=(eσ 3 (by omega) (by omega) (by omega)).trans f3
 have e42:=(eσ 42 (by omega) (by omega) (by omega)).trans f42
 have e43:=(eσ 43 (by omega) (by omega) (by omega)).trans f43
 by_cases hlt:k<l.length
 case neg=>
  simp(disch:=first|omega|simp only[zz];try omega;done) only[↓reduceIte,go_sem,Sm,e43,e44,au (show¬(k:Int)<(l.length:Nat) by omega)]
  exact hQ _ _ _ m' (λi a b c=>by simp only[kF];rw[ah (by omega)];exact eσ i (by omega) b c) (by simp [kF,e8]) hm' st
 obtain⟨y,hy⟩:=uu hlt
 obtain⟨hyP,hyN⟩:=hx y (aI hy)
 obtain⟨pb,po,rfl,hpb,hpu,hpz,hpr⟩:=(il.mono st.ge).row k y hy
 rw[oK]at hpr
 obtain⟨yv,hpr,iyv⟩:=hpr
 obtain⟨ya,yc,rfl,-,-⟩:=iyv.sl
 simp only[uU,vD,aG,aP]at hpr hpu hpz
 obtain⟨p0,p1',p2'⟩:=hpr
 obtain⟨h5',h6,u6,hh5,hh6,B5,B6,s6,hz6⟩:=kZ u' h' [str [],.slice none 0 0,.int .i64 0] [str y.1,.slice ya y.2.1.length yc,.int .i64 y.2.2] 52 rfl
 have B51:=B5.1
 have B61:=B6.1
 obtain⟨cb,hcb⟩:=kJ h'.size
 rw[<-hcb]at B5 B51 B6 B61 hh6
 have st6:=st.tZ s6
 have W6:=W.sZ st6
 have L6:=L.sZ st6
 have W61:=W6.1
 have iP6:=iP.mono st6.ge
 obtain⟨Pa,Pc,rfl,-,-⟩:=iP.sl
 obtain⟨i,i1,i2,i3⟩:=oN hyP
 obtain⟨x,hxx⟩: ∃x,lv[i]? =some x:=⟨lv[i]'(by rw[hlv.1];exact i2),by rw[aL]⟩
 obtain⟨x1',x2'⟩:=IC L6 hxx
 have hxb:=hb x (aI hxx)
 have hin:i<n:=by rw[<-hn,hlv.1];exact i2
 simp(disch:=first|omega|simp only[zz];try omega;done) only[↓reduceIte,go_sem,Sm,e0,e42,e43,e44,af (show(k:Int)<(l.length:Nat) by omega),p0,p1',p2',<-hcb,<-hh5,<-hh6,B5.2.1,B5.2.2.1,B6.at,B6.2.1,W6.at,W6.2.1]
 refine kD ⟨rfl,u6,_,P,y.1,rfl,iP6,by omega,⟨kY,?_⟩⟩
 rw[i1]
 simp(disch:=first|omega|simp only[zz];try omega;done) only[↓reduceIte,go_sem,e3,e8,e44,af (show(0:Int)<=(i:Int) by omega),af (show(i:Int)<(n:Nat) by omega),aZ,x1',x2']
 have hxN:=hyN x (hlv.2 i y.1 x i3 hxx)
 have e9:(if m'<x then((x:Nat):Int)else(m':Int))=((if m'<x then x else m':Nat):Int):=by split<;>rfl
 rw[e9]
 refine⟨k+1,?_,by omega⟩
 rw[hI]
 refine⟨u6,(if m'<x then x else m'),by simp [kF],by simp [kF],λj a b c=> ?_,hlt,by split;exact hxN;exact hm',st6⟩
 simp only[kF]
 repeat rw[ah (by omega)]
 exact eσ j a b c
theorem YL (W:kV u h wb [x0,x1,Pv,x3,x4]) (iP:kM u h Pv P) (L:kV u h lb (Rk lv)) (hlv:CX p P lv) (hn:lv.length=n) (hb: ∀x∈lv,x<=1000000) (hP:P.length<=1000000)
  (il:kM u h (.slice la l.length lc) l) (hl:l.length<=1000000) (hm:NW p m hd) (hx: ∀a∈l,a.1∈P/\ ∀k,NW p k a.1->NW p (k+1) hd)
  (f0:σ0 0= .pointer (some ⟨wb,0,none⟩)) (f3:σ0 3= .slice (some ⟨lb,0,none⟩) n n) (f8:σ0 8= .int .i64 m) (f42:σ0 62= .slice la l.length lc) (f43:σ0 63= .int .i64 (l.length:Nat)) (f44:σ0 64= .int .i64 0)
  (hQ: ∀σ' u' h' m',(∀i,i<64->i≠8->i≠12->σ' i=σ0 i)->σ' 8= .int .i64 (m':Nat)->NW p m' hd->kG S0 u h u' h'->Q (.exit 6) σ' h'):wpS Bz (.loop Sn) Q σ0 h:=by
 obtain⟨I,hI⟩:=kJ (α:=Nat->lm->H->Prop) λk σ h'=> ∃(u':U) (m':Nat),σ 8= .int .i64 (m':Nat)/\σ 64= .int .i64 k/\(∀i,i<64->i≠8->i≠12->σ i=σ0 i)/\k<=l.length/\NW p m' hd/\kG S0 u h u' h'
 refine kH I (λj=>l.length - j) 0 (by rw[hI];exact⟨u,m,f8,by rw[f44];rfl,λi _ _ _=>rfl,by omega,hm,.refl _ _ _⟩) ?_
 intro k σ h' hi
 rw[hI]at hi
 obtain⟨u',m',e8,e44,eσ,hk,hm',st⟩:=hi
 have e0:=(eσ 0 (by omega) (by omega) (by omega)).trans f0
 have e3:=(eσ 3 (by omega) (by omega) (by omega)).trans f3
 have e42:=(eσ 62 (by omega) (by omega) (by omega)).trans f42
 have e43:=(eσ 63 (by omega) (by omega) (by omega)).trans f43
 by_cases hlt:k<l.length
 case neg=>
  simp(disch:=first|omega|simp only[zz];try omega;done) only[↓reduceIte,go_sem,Sn,e43,e44,au (show¬(k:Int)<(l.length:Nat) by omega)]
  exact hQ _ _ _ m' (λi a b c=>by simp only[kF];rw[ah (by omega)];exact eσ i (by omega) b c) (by simp [kF,e8]) hm' st
 obtain⟨y,hy⟩:=uu hlt
 obtain⟨hyP,hyN⟩:=hx y (aI hy)
 obtain⟨pb,po,rfl,hpb,hpu,hpz,hpr⟩:=(il.mono st.ge).row k y hy
 rw[oK]at hpr
 obtain⟨yv,hpr,iyv⟩:=hpr
 obtain⟨ya,yc,rfl,-,-⟩:=iyv.sl
 simp only[uU,vD,aG,aP]at hpr hpu hpz
 obtain⟨p0,p1',p2'⟩:=hpr
 obtain⟨h5',h6,u6,hh5,hh6,B5,B6,s6,hz6⟩:=kZ u' h' [str [],.slice none 0 0,.int .i64 0] [str y.1,.slice ya y.2.1.length yc,.int .i64 y.2.2] 52 rfl
 have B51:=B5.1
 have B61:=B6.1
 obtain⟨cb,hcb⟩:=kJ h'.size
 rw[<-hcb]at B5 B51 B6 B61 hh6
 have st6:=st.tZ s6
 have W6:=W.sZ st6
 have L6:=L.sZ st6
 have W61:=W6.1
 have iP6:=iP.mono st6.ge
 obtain⟨Pa,Pc,rfl,-,-⟩:=iP.sl
 obtain⟨i,i1,i2,i3⟩:=oN hyP
 obtain⟨x,hxx⟩: ∃x,lv[i]? =some x:=⟨lv[i]'(by rw[hlv.1];exact i2),by rw[aL]⟩
 obtain⟨x1',x2'⟩:=IC L6 hxx
 have hxb:=hb x (aI hxx)
 have hin:i<n:=by rw[<-hn,hlv.1];exact i2
 simp(disch:=first|omega|simp only[zz];try omega;done) only[↓reduceIte,go_sem,Sn,e0,e42,e43,e44,af (show(k:Int)<(l.length:Nat) by omega),p0,p1',p2',<-hcb,<-hh5,<-hh6,B5.2.1,B5.2.2.1,B6.at,B6.2.1,W6.at,W6.2.1]
 refine kD ⟨rfl,u6,_,P,y.1,rfl,iP6,by omega,⟨kY,?_⟩⟩
 rw[i1]
 simp(disch:=first|omega|simp only[zz];try omega;done) only[↓reduceIte,go_sem,e3,e8,e44,af (show(0:Int)<=(i:Int) by omega),af (show(i:Int)<(n:Nat) by omega),aZ,x1',x2']
 have hxN:=hyN x (hlv.2 i y.1 x i3 hxx)
 have e9:(if(m':Int)<(x:Nat)+1 then((x:Nat):Int)+1 else(m':Int))=((if m'<x+1 then x+1 else m':Nat):Int):=by
  by_cases q:m'<x+1
  ·rw[ay q,ay (by omega)];omega
  ·rw[ah q,ah (by omega)]
 rw[e9]
 refine⟨k+1,?_,by omega⟩
 rw[hI]
 refine⟨u6,(if m'<x+1 then x+1 else m'),by simp [kF],by simp [kF],λj a b c=> ?_,hlt,by split;exact hxN;exact hm',st6⟩
 simp only[kF]
 repeat rw[ah (by omega)]
 exact eσ j a b c
theorem af5(B:kV u h b (Rk lv))(hl:lv.length<=1000000):kG (λj=>j=b) u h (ub u b lv.length) h/\kM (ub u b lv.length) h (.slice (some ⟨b,0,none⟩) lv.length lv.length) (lv.map λx:Nat=>(x:Int)):=by
 have hc:(Rk lv).length=lv.length:=by simp [Rk]
 refine⟨kG.settle u h rfl (by rw[B.2.2.2.1];exact az _),_,_,_,rfl,by simp,aH _,?_,λe=>(by cases e),λ_=>⟨b,0,rfl,B.1,?_,?_,λi x hx=> ?_⟩⟩
 ·have:(1000000:Nat)<=maxLen:=by decide
  omega
 ·simp [ub,nM]
 ·rw[B.2.1,hc];simp [nM]
 ·rw[aR]at hx
  cases hy:lv[i]? with
  |none=>rw[hy]at hx;cases hx
  |some y=>
   rw[hy]at hx
   cases hx
   rw[lD,nM,aZ,bY,oV,(IC B hy).1]
def Rm(vs:List Value)(h:H)(K:Value->H->Prop):Prop:= ∃(u:U) (wb:Nat) (x0 x1 x2 x3 x4:Value) (R:List Xe) (P:List Nm) (p:List kX),vs=[.pointer (some ⟨wb,0,none⟩)]/\kV u h wb [x0,x1,x2,x3,x4]/\kM u h x0 R/\kM u h x2 P/\R.length<=1000000/\P.length<=1000000/\ahA p R/\BI p/\(∀c∈p,c.2.length<=16/\c.1.1∈P/\ ∀l∈c.2,l.1≠3->l.2.1.1∈P)/\(∀r∈R,r.2.1.length<=16/\r.2.2.2.1.length<=16)/\
 ∀u' h' v (lv:List Int),kG S0 u h u' h'->kM u' h' v lv->lv.length=P.length->K v h'
theorem Rn{vs:List Value}{K:Value->H->Prop}{KP:List PanicEntry->H->Prop}(hC:Rm vs h K):ma Tryz.prog 65 vs h K KP:=by
 obtain⟨u,wb,x0,x1,x2,x3,x4,R,P,p,rfl,W,iR,iP,hR,hP,hrl,hn,hp,h16,hK⟩:=hC
 refine kP 20116525707562785714345612765 [(none,(.t 2))] JD Tryz.func65 (by kernel_rfl) (by apply c0 rfl;repeat' first|apply cS|apply cK|apply cL|apply cX|(apply cC (by decide))|(conv=>lhs;cbv;try simp only[mF])) ?_
 obtain⟨Ra,Rc,rfl,-,-⟩:=iR.sl
 obtain⟨Pa,Pc,rfl,-,-⟩:=iP.sl
 have W1:=W.1
 obtain⟨n,hnn⟩:=kJ P.length
 obtain⟨h1,u1,hh1,zh1,p1,L1⟩:=kL u h (qx [.int .i64 0] n) 3
 obtain⟨lb,hlb⟩:=kJ h.size
 rw[<-hlb]at L1
 have hrep:qx [.int .i64 0] n=Rk (List.replicate n 0):=by rw[wP];simp [Rk]
 simp(disch:=first|omega|simp only[zz];try omega;done) only[↓reduceIte,go_sem,W.at,W.2.1,<-hnn,af (show(0:Int)<=(n:Nat) by omega),af (show n<=n from aH n),af (show((n:Nat):Int)*8<=140737488355328 by omega)]
 rw[<-hh1,<-hlb]
 have hle: ∀lv,CX p P lv-> ∀x∈lv,x<=n:=λlv q x hx=>by rw[hnn];exact q.le hn (λc hc=>(hp c hc).2.1) hx
 rw[hrep]at L1
 have hn6:n<=1000000:=by omega
 obtain⟨I,hI⟩:=kJ (α:=Nat->lm->H->Prop) λm σ h'=> ∃(u':U) (lv:List Nat) (ag:Bool),σ 0= .pointer (some ⟨wb,0,none⟩)/\σ 3= .slice (some ⟨lb,0,none⟩) n n/\σ 4= .bool ag/\m=2*(n*n - lv.sum)+ag.toNat/\CX p P lv/\kV u' h' lb (Rk lv)/\kG S0 u h u' h'
 refine kH I (λm=>m) (2*(n*n - (List.replicate n 0).sum)+1) (by rw[hI];exact⟨u1,List.replicate n 0,true,by simp [kF],by simp [kF],by simp [kF],rfl,by rw[hnn];exact CX.init,L1,p1⟩) ?_
 clear hrep L1 p1 hh1
 intro m σ h' hi
 rw[hI]at hi
 obtain⟨u',lv,ag,e0,e3,e4,hm,hlv,L,st⟩:=hi
 have hln:lv.length=n:=by rw[hlv.1,hnn]
 cases ag with
 |false=>
  obtain⟨s9,i9⟩:=af5 L (by omega)
  simp(disch:=first|omega|simp only[zz];try omega;done) only[↓reduceIte,go_sem,e3,e4]
  rw[hln]at s9 i9
  exact hK _ _ _ _ (st.own s9 λb q=>by rw[q];omega) i9 (by simp [hln,hnn])
 |true=>
 have W':=W.sZ st
 have W'1:=W'.1
 simp(disch:=first|omega|simp only[zz];try omega;done) only[↓reduceIte,go_sem,e0,e4,W'.at,W'.2.1]
 obtain⟨J,hJ⟩:=kJ (α:=Nat->lm->H->Prop) λk σ h'=> ∃(u':U) (lv':List Nat) (ag:Bool),σ 0= .pointer (some ⟨wb,0,none⟩)/\σ 3= .slice (some ⟨lb,0,none⟩) n n/\σ 4= .bool ag/\σ 23= .slice Ra R.length Rc/\σ 24= .int .i64 (R.length:Nat)/\σ 25= .int .i64 k/\k<=R.length/\CX p P lv'/\lv.sum<=lv'.sum/\(ag=true->lv.sum<lv'.sum)/\kV u' h' lb (Rk lv')/\kG S0 u h u' h'
 refine kH J (λj=>R.length - j) 0 (by rw[hJ];exact⟨u',lv,false,by simp [kF,e0],by simp [kF,e3],by simp [kF],by simp [kF],by simp [kF],by simp [kF],by omega,hlv,aH _,λq=>(by cases q),L,st⟩) ?_
 clear e0 e3 e4 L st W' W'1 u' h'
 intro k σ h' hj
 rw[hJ]at hj
 obtain⟨u',lv',ag,e0,e3,e4,e23,e24,e25,hk,hlv',hs1,hs2,L,st⟩:=hj
 have hln':lv'.length=n:=by rw[hlv'.1,hnn]
 have hsn:lv'.sum<=n*n:=by have:=ack (hle lv' hlv');rw[hln']at this;exact this
 by_cases hlt:k<R.length
 case neg=>
  simp(disch:=first|omega|simp only[zz];try omega;done) only[↓reduceIte,go_sem,e24,e25,au (show¬(k:Int)<(R.length:Nat) by omega)]
  refine⟨2*(n*n - lv'.sum)+ag.toNat,?_,?_⟩
  ·rw[hI];exact⟨u',lv',ag,by simp [kF,e0],by simp [kF,e3],by simp [kF,e4],rfl,hlv',L,st⟩
  ·cases ag with
   |false=>simp only[Bool.toNat_false];rw[hm];simp only[Bool.toNat_true];omega
   |true=>have:=hs2 rfl;rw[hm];simp only[Bool.toNat_true];omega
 obtain⟨y,hy⟩:=uu hlt
 obtain⟨c,hc,hc1,hc2,hc3⟩:=hrl y (aI hy)
 obtain⟨hc16,hcP,hcL⟩:=hp c hc
 obtain⟨y16,y16'⟩:=h16 y (aI hy)
 obtain⟨pb,po,rfl,hpb,hpu,hpz,hpr⟩:=(iR.mono st.ge).row k y hy
 rw[FP]at hpr
 obtain⟨v0,v1,v2,v3,v4,hpr,i0,i1,i2,i3,i4⟩:=hpr
 simp only[UR,Zu,aG,aP]at hpr hpu hpz
 obtain⟨q0,q1,q2,q3,q4,q5,q6,q7⟩:=hpr
 obtain⟨h5',h6,u6,hh5,hh6,B5,B6,s6,hz6⟩:=kZ u' h' [str [],.slice none 0 0,.int .i64 0,.slice none 0 0,.slice none 0 0,.slice none 0 0,.slice none 0 0,.int .i64 0] [str y.1.1,v0,.int .i64 y.1.2.2,v1,v2,v3,v4,.int .i64 y.2.2.2.2.2] 56 rfl
 have B51:=B5.1
 have B61:=B6.1
 obtain⟨cb,hcb⟩:=kJ h'.size
 rw[<-hcb]at B5 B51 B6 B61 hh6
 have st6:=st.tZ s6
 have W6:=W.sZ st6
 have L6:=L.sZ s6
 have W61:=W6.1
 have iP6:=iP.mono st6.ge
 simp(disch:=first|omega|simp only[zz];try omega;done) only[↓reduceIte,go_sem,e0,e23,e24,e25,af (show(k:Int)<(R.length:Nat) by omega),q0,q1,q2,q3,q4,q5,q6,q7,i0.okc,i1.okc,i2.okc,i3.okc,i4.okc,<-hcb,<-hh5,<-hh6,B5.2.1,B5.2.2.1,B6.at,B6.2.1,W6.at,W6.2.1]
 refine kD ⟨rfl,u6,_,P,y.1.1,rfl,iP6,by omega,⟨kY,?_⟩⟩
 obtain⟨i,j1,j2,j3⟩:=oN (l:=P) (x:=y.1.1) (by rw[hc1];exact hcP)
 have hin:i<n:=by omega
 obtain⟨x,hx⟩: ∃x,lv'[i]? =some x:=⟨lv'[i]'(by omega),by rw[aL]⟩
 obtain⟨x1',x2'⟩:=IC L6 hx
 have hxN:=hlv'.2 i _ x j3 hx
 obtain⟨va1,vc1,rfl,-,-⟩:=i1.sl
 obtain⟨va3,vc3,rfl,-,-⟩:=i3.sl
 rw[j1]
 simp(disch:=first|omega|simp only[zz];try omega;done) only[↓reduceIte,go_sem,e3,af (show(0:Int)<=(i:Int) by omega),af (show(i:Int)<(n:Nat) by omega),aZ,x1',x2',B6.at,B6.2.1]
 have hb6: ∀lv,CX p P lv-> ∀x∈lv,x<=1000000:=λlv q x hx=>aY (hle lv q x hx) hn6
 refine YK (hd:=y.1.1) (p:=p) W6 iP6 L6 hlv' hln' (hb6 _ hlv') hP (i1.mono s6.ge) (by omega) hxN (λa ha=> ?_) (by simp [kF,e0]) (by simp [kF,e3]) (by simp [kF]) (by simp [kF]) (by simp [kF]) (by simp [kF]) λσ7 u7 h7 m7 hσ7 g8 hm7 s7=> ?_
 ·obtain⟨l,l1,l2,l3⟩:=hc2 a ha
  exact⟨by rw[<-l3];exact hcL l l1 (by omega),λk hk=>by rw[hc1];rw[<-l3]at hk;exact .pos hc l1 l2 hk⟩
 have st7:=st6.tZ s7
 have B7:=B6.sZ s7
 have B71:=B7.1
 have g0:σ7 0= .pointer (some ⟨wb,0,none⟩):=(hσ7 0 (by omega) (by omega) (by omega)).trans (by simp [kF,e0])
 have g3:σ7 3= .slice (some ⟨lb,0,none⟩) n n:=(hσ7 3 (by omega) (by omega) (by omega)).trans (by simp [kF,e3])
 have g6:σ7 6= .pointer (some ⟨cb,0,none⟩):=(hσ7 6 (by omega) (by omega) (by omega)).trans (by simp [kF])
 have g7:σ7 7= .int .i64 i:=(hσ7 7 (by omega) (by omega) (by omega)).trans (by simp [kF])
 have hσ7': ∀j,j<30->j≠6->j≠7->j≠8->j≠10->j≠26->j≠28->σ7 j=σ j:=λj a b c d e f g=>by
  rw[hσ7 j (by omega) d e]
  simp only[kF]
  repeat rw[ah (by omega)]
 simp(disch:=first|omega|simp only[zz];try omega;done) only[↓reduceIte,go_sem,g6,B7.at,B7.2.1]
 have W7:=W6.sZ s7
 have W71:=W7.1
 refine YL (hd:=y.1.1) (p:=p) W7 (iP6.mono s7.ge) (L6.sZ s7) hlv' hln' (hb6 _ hlv') hP ((i3.mono s6.ge).mono s7.ge) (by omega) hm7 (λa ha=> ?_) (by simp [kF,g0]) (by simp [kF,g3]) (by simp [kF,g8]) (by simp [kF]) (by simp [kF]) (by simp [kF]) λσ8 u8 h8 m8 hσ8 g8' hm8 s8=> ?_
 ·obtain⟨l,l1,l2,l3⟩:=hc3 a ha
  exact⟨by rw[<-l3];exact hcL l l1 (by omega),λk hk=>by rw[hc1];rw[<-l3]at hk;exact .neg hc l1 l2 hk⟩
 have st8:=st7.tZ s8
 have W8:=W7.sZ s8
 have L8:=(L6.sZ s7).sZ s8
 have W81:=W8.1
 have f0:σ8 0= .pointer (some ⟨wb,0,none⟩):=(hσ8 0 (by omega) (by omega) (by omega)).trans (by simp [kF,g0])
 have f3:σ8 3= .slice (some ⟨lb,0,none⟩) n n:=(hσ8 3 (by omega) (by omega) (by omega)).trans (by simp [kF,g3])
 have f7:σ8 7= .int .i64 i:=(hσ8 7 (by omega) (by omega) (by omega)).trans (by simp [kF,g7])
 have hσ8': ∀j,j<30->j≠6->j≠7->j≠8->j≠10->j≠12->j≠26->j≠28->σ8 j=σ j:=λj a b c d e f g k=>by
  rw[hσ8 j (by omega) d f]
  simp only[kF]
  repeat rw[ah (by omega)]
  exact hσ7' j a b c d e g k
 have f4:=(hσ8' 4 (by omega) (by omega) (by omega) (by omega) (by omega) (by omega) (by omega) (by omega)).trans e4
 have f23:=(hσ8' 23 (by omega) (by omega) (by omega) (by omega) (by omega) (by omega) (by omega) (by omega)).trans e23
 have f24:=(hσ8' 24 (by omega) (by omega) (by omega) (by omega) (by omega) (by omega) (by omega) (by omega)).trans e24
 have f25:=(hσ8' 25 (by omega) (by omega) (by omega) (by omega) (by omega) (by omega) (by omega) (by omega)).trans e25
 have hm8n:m8<=n:=by rw[hnn];exact hm8.le hn (λc hc=>(hp c hc).2.1)
 obtain⟨z1',z2'⟩:=IC L8 hx
 by_cases hgt:x<m8
 ·have L9:=L8.set (i:=i) (v:= .int .i64 (m8:Nat)) (by simp [Rk];omega)
  have lh:(Rk lv').set i (.int .i64 (m8:Nat))=Rk (lv'.set i m8):=by simp [Rk,iV]
  rw[lh]at L9
  have s9:=kG.set (S:=λb=>b=lb) u8 h8 (b:=lb) (o:=i) (.int .i64 (m8:Nat)) rfl (by rw[L8.2.2.2.1];exact az _)
  have wH:=L8.2.2.1
  simp(disch:=first|omega|simp only[zz];try omega;done) only[↓reduceIte,go_sem,f0,f3,f7,f25,g8',W8.at,W8.2.1,<-hnn,au (show¬(n:Int)<(m8:Nat) by omega),af (show(0:Int)<=(i:Int) by omega),af (show(i:Int)<(n:Nat) by omega),aZ,z1',z2',af (show(x:Int)<(m8:Nat) by omega),wH,af (az i),or_true,dN]
  refine⟨k+1,?_,by omega⟩
  rw[hJ]
  have hsum:=Xm hx hgt
  exact⟨u8,lv'.set i m8,true,by simp [kF,f0],by simp [kF,f3],by simp [kF],by simp [kF,f23],by simp [kF,f24],by simp [kF],hlt,hlv'.set j3 hm8,by omega,λ_=>by omega,L9,st8.own s9 λb q=>by rw[q];omega⟩
 ·simp(disch:=first|omega|simp only[zz];try omega;done) only[↓reduceIte,go_sem,f0,f3,f7,f25,g8',W8.at,W8.2.1,<-hnn,au (show¬(n:Int)<(m8:Nat) by omega),af (show(0:Int)<=(i:Int) by omega),af (show(i:Int)<(n:Nat) by omega),aZ,z1',z2',au (show¬(x:Int)<(m8:Nat) by omega)]
  refine⟨k+1,?_,by omega⟩
  rw[hJ]
  exact⟨u8,lv',ag,by simp [kF,f0],by simp [kF,f3],by simp [kF,f4],by simp [kF,f23],by simp [kF,f24],by simp [kF],hlt,hlv',hs1,hs2,L8,st8⟩
end Go.Proofs.Z
namespace Edict
variable {P P':List Nm} {cs cs':List sU}
def ad1(P:List Nm)(cs:List sU)(a:lH):Prop:=a.1∈P/\ ∀t∈a.2.1,t.1≠4->rH t∈cs
def UO(P:List Nm)(cs:List sU)(l:lV):Prop:=(l.1≠3->l.2.1.1∈P)/\ ∀t∈mZ l,t.1≠4->rH t∈cs
def Ri(P:List Nm)(cs:List sU)(c:kX):Prop:=ad1 P cs c.1/\ ∀l∈c.2,UO P cs l
theorem ad1.mono{a:lH}(h:ad1 P cs a)(h1: ∀x∈P,x∈P')(h2: ∀x∈cs,x∈cs'):ad1 P' cs' a:=⟨h1 _ h.1,λt q q'=>h2 _ (h.2 t q q')⟩
theorem UO.mono{a:lV}(h:UO P cs a)(h1: ∀x∈P,x∈P')(h2: ∀x∈cs,x∈cs'):UO P' cs' a:=⟨λq=>h1 _ (h.1 q),λt q q'=>h2 _ (h.2 t q q')⟩
theorem Ri.mono{a:kX}(h:Ri P cs a)(h1: ∀x∈P,x∈P')(h2: ∀x∈cs,x∈cs'):Ri P' cs' a:=⟨h.1.mono h1 h2,λl q=>(h.2 l q).mono h1 h2⟩
theorem Bw{t:ll}:(∀x∈cs,x∈YO cs t)/\(t.1≠4->rH t∈YO cs t):=by
 unfold YO
 split
 ·rename_i h;exact⟨λx q=>q,λq=>absurd h q⟩
 ·exact⟨uZ.2,λ_=>uZ.1⟩
theorem DV: ∀{l:List ll} {cs:List sU},(∀x∈cs,x∈Zo cs l)/\ ∀t∈l,t.1≠4->rH t∈Zo cs l
 |[],cs=>⟨λx q=>q,λt q=>(by cases q)⟩
 |t::l,cs=>by
  obtain⟨a,b⟩:=DV (l:=l) (cs:=YO cs t)
  refine⟨λx q=>a x (Bw.1 x q),λs q h=> ?_⟩
  rcases bn.1 q with rfl|q
  ·exact a _ (Bw.2 h)
  ·exact b s q h
end Edict
namespace Go.Proofs.Z
open Go Go.Ev Edict
def EJ:mG:=λf vs h K _=>(f=62/\NG vs h K)\/(f=61/\WP vs h K)\/(f=63/\Rq vs h K)\/(f=64/\IG vs h K)\/(f=65/\Rm vs h K)
theorem IB:nz Tryz.prog EJ:=mK Lg (mK YN (mK UT (mK JE (qd Rn))))
theorem Rj {k0 wb:Nat} {u:U} {h:H} {r f p lv c:Value} {R:List Xe} {F:List JG} {P:List Nm} {cs:List sU} {σ0:lm} {Q:qm} {l:List lV} {la:Option Addr} {lc:Nat} (w:Wd k0 u h wb ⟨r,f,p,lv,c⟩ ⟨R,F,P,cs⟩) (il:kM u h (.slice la l.length lc) l) (hl: ∀x∈l,yf x) (hln:l.length<=1000) (hP:P.length<=10000000) (hcs:cs.length<=10000000)
  (f5:σ0 5= .pointer (some ⟨wb,0,none⟩)) (f23:σ0 23= .slice la l.length lc) (f24:σ0 24= .int .i64 (l.length:Nat)) (f25:σ0 25= .int .i64 0)
  (hQ: ∀σ' u' h' p' c' P' cs',(∀i,i<25->i≠9->σ' i=σ0 i)->Wd k0 u' h' wb ⟨r,f,p',lv,c'⟩ ⟨R,F,P',cs'⟩->rG wb ⟨r,f,p,lv,c⟩ ⟨r,f,p',lv,c'⟩ u h u' h'->(∀x∈P,x∈P')->(∀x∈cs,x∈cs')->P'.length<=P.length+l.length->cs'.length<=cs.length+8*l.length->(∀x∈l,UO P' cs' x)->Q (.exit 2) σ' h'):wpS EJ (.loop Oo) Q σ0 h:=by
 obtain⟨I,hI⟩:=kJ (α:=Nat->lm->H->Prop) λk σ h'=> ∃(u':U) (p' c':Value) (P':List Nm) (cs':List sU),σ 25= .int .i64 k/\(∀i,i<25->i≠9->σ i=σ0 i)/\k<=l.length/\Wd k0 u' h' wb ⟨r,f,p',lv,c'⟩ ⟨R,F,P',cs'⟩/\rG wb ⟨r,f,p,lv,c⟩ ⟨r,f,p',lv,c'⟩ u h u' h'/\(∀x∈P,x∈P')/\(∀x∈cs,x∈cs')/\P'.length<=P.length+k/\cs'.length<=cs.length+8*k/\(∀x∈l.take k,UO P' cs' x)/\Ge u h u' h'
 refine kH I (λj=>l.length - j) 0 (by rw[hI];exact⟨u,p,c,P,cs,by rw[f25];rfl,λi _ _=>rfl,by omega,w,.refl _ _ _ _,λx q=>q,λx q=>q,by omega,by omega,λx q=>by simp at q,Ge.refl _ _⟩) ?_
 intro k σ h' hi
 rw[hI]at hi
 obtain⟨u',p',c',P',cs',e25,eσ,hk,w',t',hPP,hcc,hPl,hcl,hcov,g'⟩:=hi
 have e5:=(eσ 5 (by omega) (by omega)).trans f5
 have e23:=(eσ 23 (by omega) (by omega)).trans f23
 have e24:=(eσ 24 (by omega) (by omega)).trans f24
 by_cases hlt:k<l.length
 case neg=>
  rw[aK (by omega)]at hcov
  simp(disch:=first|omega|simp only[zz];try omega;done) only[↓reduceIte,go_sem,Oo,e24,e25,au (show¬(k:Int)<(l.length:Nat) by omega)]
  exact hQ _ _ _ _ _ _ _ (λi a b=>by simp only[kF];rw[ah (by omega)];exact eσ i (by omega) b) w' t' hPP hcc (by omega) (by omega) hcov
 obtain⟨y,hy⟩:=uu hlt
 have hyf:=hl y (aI hy)
 have hy8:=hyf.1
 obtain⟨pb,po,rfl,hpb,hpu,hpz,hpr⟩:=(il.mono g').row k y hy
 rw[tQ]at hpr
 obtain⟨yv,hpr,iyv⟩:=hpr
 obtain⟨ya,yc,rfl,-,-⟩:=iyv.sl
 simp only[nL,yS,xF,aG,aP]at hpr hpu hpz
 obtain⟨q0,q1,q2,q3,q4,q5,q6,q7,q8,q9,q10,q11,q12,q13⟩:=hpr
 obtain⟨h5',h6,u6,hh5,hh6,B5,B6,s6,hz6⟩:=kZ u' h' [.int .i64 0,str [],.slice none 0 0,.int .i64 0,.int .i64 0,.int .i64 0,.int .i64 0,str [],.int .i64 0,.int .i64 0,.int .i64 0,str [],.int .i64 0,.int .i64 0] (nL y (.slice ya y.2.1.2.1.length yc)) 100 rfl
 simp only[nL]at hh6 B6
 have B51:=B5.1
 have B61:=B6.1
 obtain⟨cb,hcb⟩:=kJ h'.size
 rw[<-hcb]at B5 B51 B6 B61 hh6
 have w6:=w'.sZ s6
 have t6:=t'.sZ s6
 have nB: ¬Sw wb ⟨r,f,p',lv,c'⟩ cb:=λq=>by have:=(w'.ge q).2;omega
 have hsn:l.take (k+1)=l.take k++[y]:=by rw[aS,hy];rfl
 have fin: ∀(σ'':lm) (u9:U) (h9:H) (p9 c9:Value) (P9:List Nm) (cs9:List sU),σ'' 25= .int .i64 ((k:Int)+1)->(∀i,i<25->i≠9->σ'' i=σ i)->Wd k0 u9 h9 wb ⟨r,f,p9,lv,c9⟩ ⟨R,F,P9,cs9⟩->rG wb ⟨r,f,p',lv,c'⟩ ⟨r,f,p9,lv,c9⟩ u6 h6 u9 h9->(∀x∈P',x∈P9)->(∀x∈cs',x∈cs9)->P9.length<=P'.length+1->cs9.length<=cs'.length+8->UO P9 cs9 y-> ∃j,I j σ'' h9/\l.length - j<l.length - k:=by
  intro σ'' u9 h9 p9 c9 P9 cs9 g25 gσ w9 t9 a1 a2 a3 a4 a5
  refine⟨k+1,?_,by omega⟩
  rw[hI]
  refine⟨u9,p9,c9,P9,cs9,by rw[g25];simp,λi a b=>(gσ i a b).trans (eσ i a b),hlt,w9,t6.trans t9,λx q=>a1 x (hPP x q),λx q=>a2 x (hcc x q),by omega,by omega,λx hx=> ?_,(g'.trans s6.ge).trans t9.st.ge⟩
  rw[hsn]at hx
  rcases bG.1 hx with hx|hx
  ·exact(hcov x hx).mono a1 a2
  ·rw[bJ.1 hx];exact a5
 rcases dG (y.1=3)with h3|h3
 ·have hlt3:mZ y=[y.2.2.2.1,y.2.2.2.2.1]:=ay h3
  simp(disch:=first|omega|simp only[zz];try omega;done) only[↓reduceIte,go_sem,Oo,e5,e23,e24,e25,af (show(k:Int)<(l.length:Nat) by omega),q0,q1,q2,q3,q4,q5,q6,q7,q8,q9,q10,q11,q12,q13,<-hcb,<-hh5,<-hh6,B5.2.1,B5.2.2.1,B6.at,B6.2.1,af h3]
  refine kD (.inl ⟨rfl,u6,k0,wb,_,_,y.2.2.2.1,rfl,w6,(by simp only;omega),λu7 h7 v7 w7 t7=>⟨kY,?_⟩⟩)
  obtain⟨B7,n7⟩:=w6.keep t7 B6 nB
  have B71:=B7.1
  have l7:=UV (cs:=cs') (t:=y.2.2.2.1)
  simp(disch:=first|omega|simp only[zz];try omega;done) only[↓reduceIte,go_sem,e5,B7.at,B7.2.1]
  refine kD (.inl ⟨rfl,u7,k0,wb,_,_,y.2.2.2.2.1,rfl,w7,(by simp only;omega),λu8 h8 v8 w8 t8=>⟨kY,?_⟩⟩)
  have l8:=UV (cs:=YO cs' y.2.2.2.1) (t:=y.2.2.2.2.1)
  simp(disch:=first|omega|simp only[zz];try omega;done) only[↓reduceIte,go_sem,e25]
  refine fin _ u8 h8 _ _ _ _ (by simp [kF]) (λi a b=>by simp only[kF];repeat rw[ah (by omega)]) w8 (t7.trans t8) (λx q=>q) (λx q=>Bw.1 x (Bw.1 x q)) (jd _) (by simp only;omega) ⟨λq=>absurd h3 q,λt ht h4=> ?_⟩
  rw[hlt3]at ht
  simp only[bn,gG,or_false]at ht
  rcases ht with rfl|rfl
  ·exact Bw.1 _ (Bw.2 h4)
  ·exact Bw.2 h4
 ·have hlt3:mZ y=y.2.1.2.1:=ah h3
  simp(disch:=first|omega|simp only[zz];try omega;done) only[↓reduceIte,go_sem,Oo,e5,e23,e24,e25,af (show(k:Int)<(l.length:Nat) by omega),q0,q1,q2,q3,q4,q5,q6,q7,q8,q9,q10,q11,q12,q13,<-hcb,<-hh5,<-hh6,B5.2.1,B5.2.2.1,B6.at,B6.2.1,au h3]
  refine kD (.inr (.inl ⟨rfl,u6,k0,wb,_,_,y.2.1,_,rfl,w6,iyv.mono s6.ge,(by simp only;omega),(by simp only;omega),λu7 h7 vp vc w7 t7=>⟨kY,?_⟩⟩))
  have l7:=IJ (cs:=cs') (l:=y.2.1.2.1)
  have l8:=CG (l:=P') (x:=y.2.1.1)
  simp(disch:=first|omega|simp only[zz];try omega;done) only[↓reduceIte,go_sem,e25]
  refine fin _ u7 h7 _ _ _ _ (by simp [kF]) (λi a b=>by simp only[kF];repeat rw[ah (by omega)]) w7 t7 uZ.2 DV.1 (by simp only;omega) (by simp only;omega) ⟨λ_=>uZ.1,λt ht h4=> ?_⟩
  rw[hlt3]at ht
  exact DV.2 t ht h4
end Go.Proofs.Z
namespace Edict
variable {p:List kX}
def qy(p:List kX):List Xe:=(p.filter λc=>decide (c.2≠[])).map qP
theorem Rh{c:kX}:qy (p++[c])=if c.2=[]then qy p else qy p++[qP c]:=by
 unfold qy
 rw[fe,eD]
 by_cases h:c.2=[]
 ·rw[ay h];simp [h]
 ·rw[ah h];simp [h]
theorem Bv:(qy p).length<=p.length:=by unfold qy;rw[aQ];exact dR _ _
theorem Af: ∀{m:List lV} {w:Nat} {v:List Nm},(lU w v m).2.length<=m.length
 |[],w,v=>aH _
 |l::m,w,v=>by
  unfold lU
  split
  ·have:=Af (m:=m) (w:=(lC w v l.2.1.2.1).1) (v:=(lC w v l.2.1.2.1).2.1);simp only[aM];omega
  ·have:=Af (m:=m) (w:=w) (v:=v);simp only[aM];omega
theorem YJ(h: ∀c∈p,mH c): ∀r∈qy p,r.2.1.length<=16/\r.2.2.2.1.length<=16:=by
 intro r hr
 obtain⟨c,hc,rfl⟩:=bq.1 hr
 have:=(h c (eB.1 hc).1).2.1
 refine⟨aY Af this,?_⟩
 simp only[qP,aQ]
 exact aY (dR _ _) this
end Edict
namespace Go.Proofs.Z
open Go Go.Ev Edict
structure WOk (p:List kX) (u:U) (h:H) (r f pv lv c:Value) (P:List Nm) (cs:List sU):Prop where
 ir:kM u h r (qy p)
 jf: ∃F:List JG,kM u h f F
 ip:kM u h pv P
 il: ∃L:List Int,kM u h lv L/\L.length=P.length
 ic:kM u h c cs
 pl:P.length<=20000
 cl:cs.length<=200000
 cov: ∀c∈p,Ri P cs c
def Le(vs:List Value)(h:H)(K:Value->H->Prop):Prop:= ∃(u:U) (p:List kX) (fs:List lH) (v w:Value),vs=[.agg #[v],w]/\kM u h v p/\kM u h w fs/\p.length<=512/\(∀c∈p,mH c)/\(∀c∈p,uz c)/\BI p/\fs.length<=4096/\(∀x∈fs,x.2.1.length<=8)/\
 ∀u' h' r f pv lv c P cs,kG S0 u h u' h'->WOk p u' h' r f pv lv c P cs->K (.agg #[r,f,pv,lv,c]) h'
theorem ND{vs:List Value}{h:H}{K:Value->H->Prop}{KP:List PanicEntry->H->Prop}(hC:Le vs h K):ma Tryz.prog 24 vs h K KP:=by
 obtain⟨u,p,fs,v,w,rfl,iv,iw,hp,hfine,hbind,hcirc,hfs,hfs8,hK⟩:=hC
 refine kP 2161763007783365303 [((some (.c1 (.ldn 5) (.t 4))),(.o1 (.ldn 5) (.t 4)))] IB Tryz.func24 (by kernel_rfl) (by conv=>lhs;cbv;try simp only[mF]) ?_
 obtain⟨va,vc,rfl,-,-⟩:=iv.sl
 obtain⟨wa,wc,rfl,-,-⟩:=iw.sl
 obtain⟨h1,u1,hh1,zh1,p1,A1⟩:=kL u h [.slice va p.length vc] 87
 obtain⟨h2,u2,hh2,zh2,p2,R2⟩:=kL u1 h1 [.slice none 0 0,.slice none 0 0,.slice none 0 0,.slice none 0 0,.slice none 0 0] 42
 obtain⟨h3,u3,hh3,zh3,p3,W3⟩:=kL u2 h2 [.slice none 0 0,.slice none 0 0,.slice none 0 0,.slice none 0 0,.slice none 0 0] 42
 obtain⟨ab,hab⟩:=kJ h.size
 obtain⟨rb,hrb⟩:=kJ h1.size
 obtain⟨wb,hwb⟩:=kJ h2.size
 rw[<-hab]at A1
 rw[<-hrb]at R2
 rw[<-hwb]at W3
 have A3:=(A1.sZ p2).sZ p3
 have R3:=R2.sZ p3
 have A31:=A3.1
 have st3:=(p1.tZ p2).tZ p3
 have hwb0:h.size<=wb:=by omega
 have hrw:rb<wb:=by omega
 have w3:Wd wb u3 h3 wb ⟨.slice none 0 0,.slice none 0 0,.slice none 0 0,.slice none 0 0,.slice none 0 0⟩ ⟨[],[],[],[]⟩:=
  ⟨W3,aH _,.nil _ _ _,.nil _ _ _,.nil _ _ _,.nil _ _ _,xE _,xE _,xE _,xE _,λb q=>absurd q (xE b),λb q=>absurd q (xE b),λb q=>absurd q (xE b),λb q=>absurd q (xE b),λb q=>absurd q (xE b),λb q=>absurd q (xE b)⟩
 simp(disch:=first|omega|simp only[zz];try omega;done) only[↓reduceIte,go_sem,<-hh1,<-hab,<-hh2,<-hrb,<-hh3,<-hwb,A3.at,A3.2.1]
 obtain⟨I,hI⟩:=kJ (α:=Nat->lm->H->Prop) λk σ h'=> ∃(u':U) (r f pv c:Value) (F:List JG) (P:List Nm) (cs:List sU),σ 1= .slice wa fs.length wc/\σ 4= .pointer (some ⟨rb,0,none⟩)/\σ 5= .pointer (some ⟨wb,0,none⟩)/\σ 13= .slice va p.length vc/\σ 14= .int .i64 (p.length:Nat)/\σ 15= .int .i64 k/\k<=p.length/\Wd wb u' h' wb ⟨r,f,pv,.slice none 0 0,c⟩ ⟨qy (p.take k),F,P,cs⟩/\kV u' h' rb [.slice none 0 0,.slice none 0 0,.slice none 0 0,.slice none 0 0,.slice none 0 0]/\kG S0 u h u' h'/\F.length<=k/\(∀x∈F,x.2.length<=8)/\P.length<=17*k/\cs.length<=136*k/\ ∀c∈p.take k,Ri P cs c
 refine kH I (λj=>p.length - j) 0 (by rw[hI];exact⟨u3,_,_,_,_,[],[],[],by simp [kF],by simp [kF],by simp [kF],by simp [kF],by simp [kF],by simp [kF],by omega,w3,R3,st3,by simp,λx q=>(by cases q),by simp,by simp,λx q=>by simp at q⟩) ?_
 clear hh1 hh2 hh3 A1 A3 A31 R2 R3 W3 w3 p1 p2 p3 st3
 intro k σ h' hi
 rw[hI]at hi
 obtain⟨u',r,f,pv,c,F,P,cs,e1,e4,e5,e13,e14,e15,hk,w',R,st,hF,hF8,hP,hcs,hcov⟩:=hi
 by_cases hlt:k<p.length
 case neg=>
  rw[aK (by omega)]at w' hcov
  have hRl:=Bv (p:=p)
  simp(disch:=first|omega|simp only[zz];try omega;done) only[↓reduceIte,go_sem,e1,e14,e15,au (show¬(k:Int)<(p.length:Nat) by omega)]
  obtain⟨J,hJ⟩:=kJ (α:=Nat->lm->H->Prop) λj σ h'=> ∃(u':U) (f pv c:Value) (F:List JG) (P:List Nm) (cs:List sU),σ 4= .pointer (some ⟨rb,0,none⟩)/\σ 5= .pointer (some ⟨wb,0,none⟩)/\σ 57= .slice wa fs.length wc/\σ 58= .int .i64 (fs.length:Nat)/\σ 59= .int .i64 j/\j<=fs.length/\Wd wb u' h' wb ⟨r,f,pv,.slice none 0 0,c⟩ ⟨qy p,F,P,cs⟩/\kV u' h' rb [.slice none 0 0,.slice none 0 0,.slice none 0 0,.slice none 0 0,.slice none 0 0]/\kG S0 u h u' h'/\F.length<=512+j/\(∀x∈F,x.2.length<=8)/\P.length<=8704+j/\cs.length<=69632+8*j/\ ∀c∈p,Ri P cs c
  refine kH J (λj=>fs.length - j) 0 (by rw[hJ];exact⟨u',f,pv,c,F,P,cs,by simp [kF,e4],by simp [kF,e5],by simp [kF],by simp [kF],by simp [kF],by omega,w',R,st,by omega,hF8,by omega,by omega,hcov⟩) ?_
  clear e1 e4 e5 e13 e14 e15 w' R st hF hF8 hP hcs hcov
  intro j σ h' hi
  rw[hJ]at hi
  obtain⟨u',f,pv,c,F,P,cs,e4,e5,e57,e58,e59,hj,w',R,st,hF,hF8,hP,hcs,hcov⟩:=hi
  have nR: ∀{V:WV} {D:WD} {u:U} {h:H},Wd wb u h wb V D-> ¬Sw wb V rb:=λw q=>by have:=(w.ge q).1;omega
  by_cases hlj:j<fs.length
  case neg=>
   simp(disch:=first|omega|simp only[zz];try omega;done) only[↓reduceIte,go_sem,e5,e58,e59,au (show¬(j:Int)<(fs.length:Nat) by omega)]
   refine kD (.inr (.inr (.inr (.inr ⟨rfl,u',wb,_,_,_,_,_,qy p,P,p,rfl,w'.B,w'.r.iZ,w'.p.iZ,by omega,by omega,aek,hcirc,λc hc=>⟨(hfine c hc).2.1,(hcov c hc).1.1,λl hl=>((hcov c hc).2 l hl).1⟩,YJ hfine,λu9 h9 v lv s9 i9 l9=>⟨kY,?_⟩⟩))))
   obtain⟨va9,vc9,rfl,-,-⟩:=i9.sl
   have w9:=w'.sZ s9
   have W9:=w9.B
   have W91:=W9.1
   have R9:=R.sZ s9
   have W10:=W9.set (i:=3) (v:= .slice va9 lv.length vc9) (by simp)
   have s10:=kG.set (S:=λb=>b=wb) u9 h9 (b:=wb) (o:=3) (.slice va9 lv.length vc9) rfl (by rw[W9.2.2.2.1];exact az _)
   obtain⟨h10,hh10⟩:=kJ (lh h9 wb 3 (.slice va9 lv.length vc9))
   rw[<-hh10]at W10 s10
   simp only[cZ,bP]at W10
   have R10:=R9.step s10 (λq=>by omega)
   have st10:=(st.tZ s9).own s10 λb q=>by rw[q];exact hwb0
   have W101:=W10.1
   have R101:=R10.1
   have sR:=kG.sets (S:=λb=>b=rb) u9 h10 (b:=rb) (o:=0) [r,f,pv,.slice va9 lv.length vc9,c] rfl (by rw[R10.2.2.2.1];exact az _) (by rw[R10.2.1];exact aH _)
   have RH:=R10.sets (l:=[r,f,pv,.slice va9 lv.length vc9,c]) rfl
   obtain⟨h11,hh11⟩:=kJ (kU h10 rb 0 [r,f,pv,.slice va9 lv.length vc9,c])
   rw[<-hh11]at sR RH
   have RH1:=RH.1
   have g:=s10.ge.trans sR.ge
   have hK:=hK u9 h11 r f pv _ c P cs (st10.own sR λb q=>by rw[q];omega) ⟨w9.r.iZ.mono g,⟨F,w9.f.iZ.mono g⟩,w9.p.iZ.mono g,⟨lv,i9.mono g,l9⟩,w9.c.iZ.mono g,by omega,by omega,hcov⟩
   simp(disch:=first|omega|simp only[zz];try omega;done) only[↓reduceIte,go_sem,e4,e5,W9.2.1,W9.2.2.1,<-hh10,W10.at,W10.2.1,R10.2.1,R10.2.2.1,w9.r.okc,w9.f.okc,w9.p.okc,w9.c.okc,<-hh11,RH.at,RH.2.1]
   exact hK
  obtain⟨y,hy⟩:=uu hlj
  have hy8:=hfs8 y (aI hy)
  obtain⟨pb,po,rfl,hpb,hpu,hpz,hpr⟩:=(iw.mono st.ge).row j y hy
  rw[oK]at hpr
  obtain⟨yv,hpr,iyv⟩:=hpr
  obtain⟨ya,yc,rfl,-,-⟩:=iyv.sl
  simp only[uU,vD,aG,aP]at hpr hpu hpz
  obtain⟨p0,p1',p2'⟩:=hpr
  obtain⟨h5',h6,u6,hh5,hh6,B5,B6,s6,hz6⟩:=kZ u' h' [str [],.slice none 0 0,.int .i64 0] [str y.1,.slice ya y.2.1.length yc,.int .i64 y.2.2] 52 rfl
  have B51:=B5.1
  have B61:=B6.1
  obtain⟨cb,hcb⟩:=kJ h'.size
  rw[<-hcb]at B5 B51 B6 B61 hh6
  have w6:=w'.sZ s6
  have st6:=st.tZ s6
  have nB: ¬Sw wb ⟨r,f,pv,.slice none 0 0,c⟩ cb:=λq=>by have:=(w'.ge q).2;omega
  simp(disch:=first|omega|simp only[zz];try omega;done) only[↓reduceIte,go_sem,e5,e57,e58,e59,af (show(j:Int)<(fs.length:Nat) by omega),p0,p1',p2',<-hcb,<-hh5,<-hh6,B5.2.1,B5.2.2.1,B6.at,B6.2.1]
  refine kD (.inr (.inl ⟨rfl,u6,wb,wb,_,_,y,_,rfl,w6,iyv.mono s6.ge,(by simp only;omega),(by simp only;omega),λu7 h7 vp vc7 w7 t7=>⟨kY,?_⟩⟩))
  obtain⟨B7,n7⟩:=w6.keep t7 B6 nB
  have B71:=B7.1
  have l7:=IJ (cs:=cs) (l:=y.2.1)
  have l7':=CG (l:=P) (x:=y.1)
  simp(disch:=first|omega|simp only[zz];try omega;done) only[↓reduceIte,go_sem,e5,B7.at,B7.2.1]
  refine kD (.inr (.inr (.inl ⟨rfl,u7,wb,wb,_,_,y,_,rfl,w7,(iyv.mono s6.ge).mono t7.st.ge,hy8,(by simp only;omega),hF8,λu8 h8 vf F8 w8 l1 l2 t8=>⟨kY,?_⟩⟩)))
  have t78:=t7.trans t8
  simp(disch:=first|omega|simp only[zz];try omega;done) only[↓reduceIte,go_sem,e59]
  refine⟨j+1,?_,by omega⟩
  rw[hJ]
  simp only at l1
  exact⟨u8,vf,vp,vc7,F8,_,_,by simp [kF,e4],by simp [kF,e5],by simp [kF,e57],by simp [kF,e58],by simp [kF],hlj,w8,(R.sZ s6).step t78.st (nR w6),st6.own t78.st λb q=>aY hwb0 (w6.ge q).1,by omega,l2,by simp only;omega,by simp only;omega,λc hc=>(hcov c hc).mono uZ.2 DV.1⟩
 obtain⟨y,hy⟩:=uu hlt
 have hyp:=aI hy
 have hyf:=hfine y hyp
 obtain⟨qb,qo,rfl,hqb,hpu,hpz,hpr⟩:=(iv.mono st.ge).row k y hy
 rw[rE]at hpr
 obtain⟨xv,yv,hpr,ixv,iyv⟩:=hpr
 obtain⟨xa,xc,rfl,-,-⟩:=ixv.sl
 obtain⟨ya,yc,rfl,-,-⟩:=iyv.sl
 simp only[vo,uH,aG,aP]at hpr hpu hpz
 obtain⟨p0,p1',p2',p3'⟩:=hpr
 obtain⟨h5',h6,u6,hh5,hh6,B5,B6,s6,hz6⟩:=kZ u' h' [str [],.slice none 0 0,.int .i64 0,.slice none 0 0] [str y.1.1,.slice xa y.1.2.1.length xc,.int .i64 y.1.2.2,.slice ya y.2.length yc] 147 rfl
 have B51:=B5.1
 have B61:=B6.1
 obtain⟨cb,hcb⟩:=kJ h'.size
 rw[<-hcb]at B5 B51 B6 B61 hh6
 have w6:=w'.sZ s6
 have st6:=st.tZ s6
 have R6:=R.sZ s6
 have nB: ¬Sw wb ⟨r,f,pv,.slice none 0 0,c⟩ cb:=λq=>by have:=(w'.ge q).2;omega
 have nR: ∀{V:WV} {D:WD} {u:U} {h:H},Wd wb u h wb V D-> ¬Sw wb V rb:=λw q=>by have:=(w.ge q).1;omega
 have hy8:=hyf.1
 have hy16:=hyf.2.1
 have hsn:p.take (k+1)=p.take k++[y]:=by rw[aS,hy];rfl
 have hRl:=Bv (p:=p.take k)
 rw[aT]at hRl
 simp(disch:=first|omega|simp only[zz];try omega;done) only[↓reduceIte,go_sem,e5,e13,e14,e15,af (show(k:Int)<(p.length:Nat) by omega),p0,p1',p2',p3',<-hcb,<-hh5,<-hh6,B5.2.1,B5.2.2.1,B6.at,B6.2.1]
 refine kD (.inr (.inl ⟨rfl,u6,wb,wb,_,_,y.1,_,rfl,w6,ixv.mono s6.ge,(by simp only;omega),(by simp only;omega),λu7 h7 vp vc7 w7 t7=>⟨kY,?_⟩⟩))
 obtain⟨B7,n7⟩:=w6.keep t7 B6 nB
 have B71:=B7.1
 have l7:=IJ (cs:=cs) (l:=y.1.2.1)
 have l7':=CG (l:=P) (x:=y.1.1)
 simp(disch:=first|omega|simp only[zz];try omega;done) only[↓reduceIte,go_sem,B7.at,B7.2.1]
 refine Rj w7 ((iyv.mono s6.ge).mono t7.st.ge) hyf.2.2 (by omega) (by simp only;omega) (by simp only;omega) (by simp [kF,e5]) (by simp [kF]) (by simp [kF]) (by simp [kF]) λσ8 u8 h8 p8 c8 P8 cs8 hσ8 w8 t8 hPP hcc hPl hcl hcv=> ?_
 obtain⟨B8,n8⟩:=w7.keep t8 B7 n7
 have B81:=B8.1
 have t68:=t7.trans t8
 have R8:=R6.step t68.st (nR w6)
 have st8:=st6.own t68.st λb q=>aY hwb0 (w6.ge q).1
 have g: ∀j,j<16->j≠7->j≠9->σ8 j=σ j:=λj a b d=>by
  rw[hσ8 j (by omega) d]
  simp only[kF]
  repeat rw[ah (by omega)]
 have g1:=(g 1 (by omega) (by omega) (by omega)).trans e1
 have g4:=(g 4 (by omega) (by omega) (by omega)).trans e4
 have g5:=(g 5 (by omega) (by omega) (by omega)).trans e5
 have g13:=(g 13 (by omega) (by omega) (by omega)).trans e13
 have g14:=(g 14 (by omega) (by omega) (by omega)).trans e14
 have g15:=(g 15 (by omega) (by omega) (by omega)).trans e15
 have g7:σ8 7= .pointer (some ⟨cb,0,none⟩):=(hσ8 7 (by omega) (by omega)).trans (by simp [kF])
 simp only at hPl hcl
 have hP8:P8.length<=17*(k+1):=by omega
 have hcs8:cs8.length<=136*(k+1):=by omega
 have hcov8: ∀c∈p.take (k+1),Ri P8 cs8 c:=λc hc=>by
  have m1: ∀x∈P,x∈P8:=λx q=>hPP x (uZ.2 x q)
  have m2: ∀x∈cs,x∈cs8:=λx q=>hcc x (DV.1 x q)
  rw[hsn]at hc
  rcases bG.1 hc with hc|hc
  ·exact(hcov c hc).mono m1 m2
  ·rw[bJ.1 hc]
   exact⟨⟨hPP _ uZ.1,λt q q'=>hcc _ (DV.2 t q q')⟩,hcv⟩
 have fin: ∀(σ'':lm) (u9:U) (h9:H) (r9 f9:Value) (F9:List JG),σ'' 15= .int .i64 ((k:Int)+1)->(∀j,j<15->j≠7->j≠9->σ'' j=σ8 j)->Wd wb u9 h9 wb ⟨r9,f9,p8,.slice none 0 0,c8⟩ ⟨qy (p.take (k+1)),F9,P8,cs8⟩->rG wb ⟨r,f,p8,.slice none 0 0,c8⟩ ⟨r9,f9,p8,.slice none 0 0,c8⟩ u8 h8 u9 h9->F9.length<=F.length+1->(∀x∈F9,x.2.length<=8)-> ∃j,I j σ'' h9/\p.length - j<p.length - k:=by
  intro σ'' u9 h9 r9 f9 F9 f15 gσ w9 t9 a1 a2
  refine⟨k+1,?_,by omega⟩
  rw[hI]
  exact⟨u9,r9,f9,p8,c8,F9,P8,cs8,(gσ 1 (by omega) (by omega) (by omega)).trans g1,(gσ 4 (by omega) (by omega) (by omega)).trans g4,(gσ 5 (by omega) (by omega) (by omega)).trans g5,(gσ 13 (by omega) (by omega) (by omega)).trans g13,(gσ 14 (by omega) (by omega) (by omega)).trans g14,by rw[f15];simp,hlt,w9,R8.step t9.st (nR w8),st8.own t9.st λb q=>aY hwb0 (w8.ge q).1,by omega,a2,hP8,hcs8,hcov8⟩
 have hrn:=Rh (p:=p.take k) (c:=y)
 rw[<-hsn]at hrn
 have W8:=w8.B
 have W81:=W8.1
 by_cases hy0:y.2=[]
 ·rw[ay hy0]at hrn
  have hl0:y.2.length=0:=by rw[hy0];rfl
  simp(disch:=first|omega|simp only[zz];try omega;done) only[↓reduceIte,go_sem,g5,g7,B8.at,B8.2.1,af (show(y.2.length:Int)=0 by omega)]
  refine kD (.inr (.inr (.inl ⟨rfl,u8,wb,wb,_,_,y.1,_,rfl,w8,(ixv.mono s6.ge).mono t68.st.ge,hy8,(by simp only;omega),hF8,λu9 h9 vf F9 w9 l1 l2 t9=>⟨kY,?_⟩⟩)))
  simp(disch:=first|omega|simp only[zz];try omega;done) only[↓reduceIte,go_sem,g15]
  refine fin _ u9 h9 r vf F9 (by simp [kF]) (λi a b d=>by simp only[kF];repeat rw[ah (by omega)]) (by rw[hrn];exact w9) t9 l1 l2
 ·rw[ah hy0]at hrn
  have hl0:y.2.length≠0:=λq=>hy0 (cO q)
  simp(disch:=first|omega|simp only[zz];try omega;done) only[↓reduceIte,go_sem,g5,g7,B8.at,B8.2.1,au (show¬(y.2.length:Int)=0 by omega),W8.at,W8.2.1]
  refine kD (.inr (.inr (.inr (.inl ⟨rfl,u8,y,_,_,rfl,(ixv.mono s6.ge).mono t68.st.ge,(iyv.mono s6.ge).mono t68.st.ge,hyf,hbind y hyp,λu9 h9 v1 v2 v3 v4 s9 j1 j2 j3 j4=> ?_⟩))))
  have w9:=w8.sZ s9
  have W9:=w9.B
  have W91:=W9.1
  refine⟨by simp(disch:=first|omega|simp only[zz];try omega;done) only[↓reduceIte,go_sem,g5,W8.at,W9.at,W9.2.1],?_⟩
  obtain⟨a1,b1,rfl,-,-⟩:=j1.sl
  obtain⟨a2,b2,rfl,-,-⟩:=j2.sl
  obtain⟨a3,b3,rfl,-,-⟩:=j3.sl
  obtain⟨a4,b4,rfl,-,-⟩:=j4.sl
  simp(disch:=first|omega|simp only[zz];try omega;done) only[↓reduceIte,go_sem,g5,W9.at,W9.2.1]
  refine kK (by simp only[]) w9.r (x:=qP y) (by rw[FP];exact⟨_,_,_,_,_,rfl,((ixv.mono s6.ge).mono t68.st.ge).mono s9.ge,j1,j2,j3,j4⟩) rfl rfl (by omega) (by simp only;omega) λa5 n5 c5 u10 h10 o10 s10 hO10=>⟨kY,?_⟩
  obtain⟨w11,t11⟩:=w9.setR o10 s10 hO10
  have W10:=W9.step s10 w9.nr
  have W101:=W10.1
  simp(disch:=first|omega|simp only[zz];try omega;done) only[↓reduceIte,go_sem,g5,g15,W10.2.1,W10.2.2.1]
  refine fin _ u10 _ (.slice a5 n5 c5) f F (by simp [kF]) (λi a b d=>by simp only[kF];repeat rw[ah (by omega)]) (by rw[hrn];exact w11) ((rG.of0 s9).trans t11) (by omega) hF8
end Go.Proofs.Z
