/- A part of the proof. -/
import Derived.Test.YtgjkkjeakagomaaGreatDoorRefS
import Derived.Test.YtgjkkjeakagomaaGreatDoorCbT
set_option linter.all false
set_option maxRecDepth 100000
set_option maxHeartbeats 4000000
open Go.Value renaming int→Jx
open Go.IntKind renaming i64→JT
namespace Edict
theorem adx(b:List UInt8):Gr [] b=if b=[]then 0 else -1:=by cases b<;>simp [Gr,Jz,tL]
theorem aaj(a:List UInt8):Gr a []=if a=[]then 0 else 1:=by cases a<;>simp [Gr,Jz,tL]
theorem aak(x y:UInt8)(a b:List UInt8):Gr (x::a) (y::b)=if(x.toNat:Int)<y.toNat then -1 else if(y.toNat:Int)<x.toNat then 1 else Gr a b:=by
 unfold Gr Jz;rw[aS,aS,tL]
theorem Yt{l:List UInt8}{i:Nat}(h:i<l.length):l.drop i=l.getD i 0::l.drop (i+1):=by
 rw[aN h,aG,bf h];rfl
end Edict
namespace Go.Ev
open Go
variable {b:Nat} {cs:List Value} {h:H} {u:U}
theorem jR.newc(l:List Value)(t:TypeId):jR (ub u h.size 0) (h.push (.cells l.toArray t)) h.size l:=
 ⟨zP,uo rfl,uS rfl,by simp [ub],λi v hv=>by rw[yH rfl,aG,hv];rfl⟩
theorem jD.own{S:Nat->Prop}{u1 u2:U}{h1 h2:H}(s:jD S0 u h u1 h1)(t:jD S u1 h1 u2 h2)(hn: ∀j,S j->h.size<=j):jD S0 u h u2 h2:=s.trans t (λj hj e=>absurd (hn j e) zO)
theorem jR.stepSet{i:Nat}{v:Value}(B:jR u h b cs):jD (λj=>j=b) u h u (ky h b i v):=jD.set u h _ rfl (by rw[B.2.2.2.1];exact aj _)
theorem jR.stepSets{l:List Value}(B:jR u h b cs)(hl:l.length=cs.length):jD (λj=>j=b) u h u (jW h b 0 l):=jD.sets u h _ rfl (by rw[B.2.2.2.1];exact ak _) (by rw[B.2.1,hl,bJ];exact ak _)
end Go.Ev
namespace Go.Proofs.Z
open Go Go.Ev Edict
variable {vs:List Value} {h:H} {K:Value->H->Prop} {KP:List PanicEntry->H->Prop}
def ady(vs:List Value)(h:H)(K:Value->H->Prop):Prop:= ∃(a b:List UInt8),vs=[str a,str b]/\a.length<=9223372036854775807/\K (Jx JT (Gr a b)) h
theorem VQ(hC:ady vs h K):kN Tryz.prog 134 vs h K KP:=by
 obtain⟨a,b,rfl,hal,hK⟩:=hC
 refine jJ 2269907025971 [(none,(.t 4))] (G:=(λ_ _ _ _ _=>False)) (λ_ _ _ _ _ h=>h.elim) Tryz.func134 ?_
 simp only[go_sem]
 obtain⟨I,hI⟩:=kg (α:=Nat->ku->H->Prop) λi σ h'=>σ 0=str a/\σ 1=str b/\σ 5= Jx JT i/\i<=a.length/\i<=b.length/\Gr a b=Gr (a.drop i) (b.drop i)/\h'=h
 refine jE I (λi=>a.length - i) 0 (by rw[hI];exact⟨zJ,zJ,zJ,aj _,aj _,rfl,rfl⟩) ?_
 intro i σ h' hy
 rw[hI]at hy
 obtain⟨e0,e1,e5,hi,hj,heq,rfl⟩:=hy
 by_cases hla:i<a.length
 ·by_cases hlb:i<b.length
  ·rw[Yt hla,Yt hlb,aak]at heq
   by_cases h1:((a.getD i 0).toNat:Int)<(b.getD i 0).toNat
   ·rw[ah h1]at heq
    simp only[↓reduceIte,go_sem,e0,e1,e5,hla,hlb,ai h1]
    rw[heq]at hK;exact hK
   ·rw[af h1]at heq
    by_cases h2:((b.getD i 0).toNat:Int)<(a.getD i 0).toNat
    ·rw[ah h2]at heq
     simp only[↓reduceIte,go_sem,e0,e1,e5,hla,hlb,ae h1,ai h2]
     rw[heq]at hK;exact hK
    ·rw[af h2]at heq
     simp(disch:=omega) only[↓reduceIte,go_sem,e0,e1,e5,hla,hlb,ae h1,ae h2]
     refine⟨i+1,?_,zO⟩
     rw[hI]
     exact⟨by simp [jI,e0],by simp [jI,e1],zJ,hla,hlb,heq,rfl⟩
  ·obtain rfl:i=b.length:=zO
   rw[bB,aaj,af (by intro e;have:=fu.1 e;omega)]at heq
   simp only[↓reduceIte,go_sem,e0,e1,e5,ae (show¬(a.length:Int)<b.length by omega),ai (show(b.length:Int)<a.length by omega)]
   rw[heq]at hK;exact hK
 ·obtain rfl:i=a.length:=zO
  rw[bB,adx]at heq
  by_cases hlb:a.length<b.length
  ·rw[af (by intro e;have:=fu.1 e;omega)]at heq
   simp only[↓reduceIte,go_sem,e0,e1,e5,ai (show(a.length:Int)<b.length by omega)]
   rw[heq]at hK;exact hK
  ·rw[ah (by rw[fu];omega)]at heq
   simp only[↓reduceIte,go_sem,e0,e1,e5,ae (show¬(a.length:Int)<b.length by omega),ae (show¬(b.length:Int)<a.length by omega)]
   rw[heq]at hK;exact hK
def jK.enc(c:jK):List Value:=[Jx JT c.1,Jx JT c.2.1,str c.2.2]
def VR(vs:List Value)(h:H)(K:Value->H->Prop):Prop:= ∃(u:U) (a b:jK),vs=[.agg (jK.enc a).toArray,.agg (jK.enc b).toArray]/\a.2.2.length<=9223372036854775807/\ ∀u' h',jD S0 u h u' h'->K (Jx JT (uh a b)) h'
def RN:lq:=λf vs h K _=>f=134/\ady vs h K
theorem Jq:lQ Tryz.prog RN:=by
 rintro f vs h K KP ⟨rfl,hC⟩;exact VQ hC
theorem DN(hC:VR vs h K):kN Tryz.prog 107 vs h K KP:=by
 obtain⟨u,a,b,rfl,hal,hK⟩:=hC
 refine jJ 17318431 [(none,(.t 4))] Jq Tryz.func107 ?_
 have hc:=adC a b
 have s1:=jD.qZ S0 u h #[Jx JT a.1,Jx JT a.2.1,str a.2.2] 108
 have s2:=jD.qZ S0 (ub u h.size 0) (h.push (.cells #[Jx JT a.1,Jx JT a.2.1,str a.2.2] 108)) #[Jx JT b.1,Jx JT b.2.1,str b.2.2] 108
 have hK:=hK _ _ (s1.tZ s2)
 by_cases h1:a.1=b.1
 ·rw[af (by simp [h1])]at hc
  by_cases h2:a.2.1=b.2.1
  ·rw[af (by simp [h2])]at hc
   simp(disch:=first|omega|simp only[zz];try omega;done) only[↓reduceIte,go_sem,jK.enc,ai h1,ai h2]
   refine jC ⟨rfl,_,_,rfl,hal,zE,?_⟩
   simp only[↓reduceIte,go_sem,jN]
   rw[hc]at hK;exact hK
  ·rw[ah (by simpa using h2)]at hc
   by_cases h3:a.2.1<b.2.1
   ·rw[ah h3]at hc
    simp(disch:=first|omega|simp only[zz];try omega;done) only[↓reduceIte,go_sem,jK.enc,ai h1,ae h2,ai h3]
    rw[hc]at hK;exact hK
   ·rw[af h3]at hc
    simp(disch:=first|omega|simp only[zz];try omega;done) only[↓reduceIte,go_sem,jK.enc,ai h1,ae h2,ae h3]
    rw[hc]at hK;exact hK
 ·rw[ah (by simpa using h1)]at hc
  by_cases h3:a.1<b.1
  ·rw[ah h3]at hc
   simp(disch:=first|omega|simp only[zz];try omega;done) only[↓reduceIte,go_sem,jK.enc,ae h1,ai h3]
   rw[hc]at hK;exact hK
  ·rw[af h3]at hc
   simp(disch:=first|omega|simp only[zz];try omega;done) only[↓reduceIte,go_sem,jK.enc,ae h1,ae h3]
   rw[hc]at hK;exact hK
def Yu(vs:List Value)(h:H)(K:Value->H->Prop):Prop:= ∃(u:U) (a b:jK),vs=[.agg (jK.enc a).toArray,.agg (jK.enc b).toArray]/\ ∀u' h',jD S0 u h u' h'->K (.bool (decide (a=b))) h'
theorem aal(hC:Yu vs h K):kN Tryz.prog 82 vs h K KP:=by
 obtain⟨u,a,b,rfl,hK⟩:=hC
 refine jJ 31 [(none,(.t 4))] (G:=(λ_ _ _ _ _=>False)) (λ_ _ _ _ _ h=>h.elim) Tryz.func82 ?_
 have s1:=jD.qZ S0 u h #[Jx JT a.1,Jx JT a.2.1,str a.2.2] 108
 have s2:=jD.qZ S0 (ub u h.size 0) (h.push (.cells #[Jx JT a.1,Jx JT a.2.1,str a.2.2] 108)) #[Jx JT b.1,Jx JT b.2.1,str b.2.2] 108
 have hK:=hK _ _ (s1.tZ s2)
 obtain⟨a1,a2,a3⟩:=a
 obtain⟨b1,b2,b3⟩:=b
 simp only[dB]at hK
 by_cases h1:a1=b1
 ·by_cases h2:a2=b2
  ·by_cases h3:a3=b3
   ·rw[bq ⟨h1,h2,h3⟩]at hK
    simp(disch:=first|omega|simp only[zz];try omega;done) only[↓reduceIte,go_sem,jK.enc,ai h1,ai h2,ai h3]
    exact hK
   ·rw[aI (λe=>h3 e.2.2)]at hK
    simp(disch:=first|omega|simp only[zz];try omega;done) only[↓reduceIte,go_sem,jK.enc,ai h1,ai h2,ae h3]
    exact hK
  ·rw[aI (λe=>h2 e.2.1)]at hK
   simp(disch:=first|omega|simp only[zz];try omega;done) only[↓reduceIte,go_sem,jK.enc,ai h1,ae h2]
   exact hK
 ·rw[aI (λe=>h1 e.1)]at hK
  simp(disch:=first|omega|simp only[zz];try omega;done) only[↓reduceIte,go_sem,jK.enc,ae h1]
  exact hK
def Cv(vs:List Value)(h:H)(K:Value->H->Prop):Prop:= ∃(u:U) (t:jM),vs=[.agg (jM.enc t).toArray]/\ ∀u' h',jD S0 u h u' h'->K (.agg (jK.enc (jU t)).toArray) h'
theorem ug(hC:Cv vs h K):kN Tryz.prog 40 vs h K KP:=by
 obtain⟨u,t,rfl,hK⟩:=hC
 obtain⟨t1,t2,t3,t4⟩:=t
 refine jJ 7 [((some (.c1 (.ldn 3) (.t 2))),(.o1 (.ldn 3) (.t 2)))] (G:=(λ_ _ _ _ _=>False)) (λ_ _ _ _ _ h=>h.elim) Tryz.func40 ?_
 simp(disch:=first|omega|simp only[zz];try omega;done) only[↓reduceIte,go_sem,jM.enc]
 exact hK _ _ zT
def nV.enc(x:nV):List Value:=[Jx JT x.1.1,Jx JT x.1.2.1,str x.1.2.2.1,Jx JT x.1.2.2.2,Jx JT x.2.1,Jx JT x.2.2]
theorem ni{u:U}{h:H}{k:nV}{cs:List Value}:Rep.rep u h k cs=(cs=nV.enc k):=by
 rw[lg];simp only[ko,lg (α:=Int) (β:=Int),mG,jM.enc,nV.enc];apply propext;constructor
 ·rintro ⟨_,_,rfl,rfl,_,_,rfl,rfl,rfl⟩;rfl
 ·rintro rfl;exact⟨_,_,rfl,rfl,_,_,rfl,rfl,rfl⟩
theorem sO:Rep.sz nV=6:=rfl
def RO(vs:List Value)(h:H)(K:Value->H->Prop):Prop:= ∃(u:U) (a b:nV),vs=[.agg (nV.enc a).toArray,.agg (nV.enc b).toArray]/\a.1.2.2.1.length<=9223372036854775807/\ ∀u' h',jD S0 u h u' h'->K (.bool (DX false a b)) h'
def VS:lq:=λf vs h K _=>(f=40/\Cv vs h K)\/(f=107/\VR vs h K)
theorem KO:lQ Tryz.prog VS:=lY ug (pX DN)
theorem RP(hC:RO vs h K):kN Tryz.prog 133 vs h K KP:=by
 obtain⟨u,a,b,rfl,hal,hK⟩:=hC
 refine jJ 63 [(none,(.t 4))] KO Tryz.func133 ?_
 have s1:=jD.qZ S0 u h (nV.enc a).toArray 106
 have s2:=jD.qZ S0 (ub u h.size 0) (h.push (.cells (nV.enc a).toArray 106)) (nV.enc b).toArray 106
 have B1:=(jR.newc (u:=u) (h:=h) (nV.enc a) 106).sZ s2
 have B2:=jR.newc (u:=ub u h.size 0) (h:=h.push (.cells (nV.enc a).toArray 106)) (nV.enc b) 106
 obtain⟨u2,hu2⟩:=kg (ub (ub u h.size 0) (h.push (.cells (nV.enc a).toArray 106)).size 0)
 rw[<-hu2]at s2 B1 B2
 unfold nV.enc at s1 s2 B1 B2 ⊢
 have b1l:=B1.1
 have b2l:=B2.1
 simp only[kw]at B2 b2l
 simp(disch:=first|omega|simp only[zz];try omega;done) only[↓reduceIte,go_sem]
 refine jC (.inl ⟨rfl,u2,a.1,rfl,λu3 h3 s3=> ?_⟩)
 have C1:=B1.sZ s3
 have C2:=B2.sZ s3
 have c2l:=C2.1
 refine⟨by simp(disch:=first|omega|simp only[zz];try omega;done) only[↓reduceIte,go_sem,C2.at,C2.2.1],?_⟩
 simp only[↓reduceIte,go_sem,jN]
 refine jC (.inl ⟨rfl,u3,b.1,rfl,λu4 h4 s4=>⟨jO,?_⟩⟩)
 have D1:=C1.sZ s4
 have D2:=C2.sZ s4
 simp only[↓reduceIte,go_sem,jN]
 refine jC (.inr ⟨rfl,u4,jU a.1,jU b.1,rfl,hal,λu5 h5 s5=>⟨jO,?_⟩⟩)
 have E1:=D1.sZ s5
 have E2:=D2.sZ s5
 have e1l:=E1.1
 have e2l:=E2.1
 have hK:=hK _ _ ((((s1.tZ s2).tZ s3).tZ s4).tZ s5)
 have hlt:DX false a b=(decide (uh (jU a.1) (jU b.1)<0) || (decide (uh (jU a.1) (jU b.1)=0) && decide (a.2.2<b.2.2))):=rfl
 rw[hlt]at hK
 by_cases h1:uh (jU a.1) (jU b.1)<0
 ·rw[bq h1,eF]at hK
  simp(disch:=first|omega|simp only[zz];try omega;done) only[↓reduceIte,go_sem,ai h1,E1.at,E2.at]
  exact hK
 ·rw[aI h1,dZ]at hK
  by_cases h2:uh (jU a.1) (jU b.1)=0
  ·rw[bq h2,dI]at hK
   by_cases h3:a.2.2<b.2.2
   ·rw[bq h3]at hK
    simp(disch:=first|omega|simp only[zz];try omega;done) only[↓reduceIte,go_sem,ae h1,ai h2,ai h3,E1.at,E2.at,E1.2.1,E2.2.1]
    exact hK
   ·rw[aI h3]at hK
    simp(disch:=first|omega|simp only[zz];try omega;done) only[↓reduceIte,go_sem,ae h1,ai h2,ae h3,E1.at,E2.at,E1.2.1,E2.2.1]
    exact hK
  ·rw[aI h2,dU]at hK
   simp(disch:=first|omega|simp only[zz];try omega;done) only[↓reduceIte,go_sem,ae h1,ae h2,E1.at,E2.at]
   exact hK
end Go.Proofs.Z
namespace Edict
variable {i:Nat} {α:Type} {l:List α} {x:α}
theorem EO{p:α->Bool}(h:l[i]? =some x):(l.take (i+1)).filter p=(l.take i).filter p++if p x then [x]else []:=by
 rw[aX,h,bC,eY]
 congr 1
 cases hp:p x<;>simp [hp]
def uM(ls:List jZ):List yj:=(ls.filter YC).map λx=>(x.2.1,(0:Int))
theorem Mg(ls:List jZ):uM ls=(mU ls).map λa=>(a,(0:Int)):=by unfold uM mU;rw[eG];rfl
theorem Cu(ls:List jZ):(uM ls).length<=ls.length:=by unfold uM;rw[aU];exact bW _ _
theorem nU{β:Type}{f:α->β}(h:l[i]? =some x):(l.take (i+1)).map f=(l.take i).map f++[f x]:=by
 rw[aX,h,bC,bH];rfl
end Edict
namespace Go.Ev
open Go Edict
theorem yf{u:U}{h:H}{k:yj}{cs:List Value}:Rep.rep u h k cs= ∃v,cs=[str k.1.1,v,Jx JT k.1.2.2,Jx JT k.2]/\jS u h v k.1.2.1:=by
 rw[lg];simp only[kE,mG];apply propext;constructor
 ·rintro ⟨_,_,rfl,⟨v,rfl,hs⟩,rfl⟩;exact⟨v,rfl,hs⟩
 ·rintro ⟨v,rfl,hs⟩;exact⟨_,_,rfl,⟨v,rfl,hs⟩,rfl⟩
theorem RH:Rep.sz yj=4:=rfl
end Go.Ev
namespace Go.Proofs.Z
open Go Go.Ev Edict
variable {vs:List Value} {h:H} {K:Value->H->Prop} {KP:List PanicEntry->H->Prop}
def RI(vs:List Value)(h:H)(K:Value->H->Prop):Prop:= ∃(u:U) (v:Value) (ls:List jZ),vs=[v]/\jS u h v ls/\ls.length<=1000000/\ ∀u' h' w,jD S0 u h u' h'->jS u' h' w (uM ls)->K w h'
theorem Jp(hC:RI vs h K):kN Tryz.prog 76 vs h K KP:=by
 obtain⟨u,v,ls,rfl,hl,hbk,hK⟩:=hC
 obtain⟨la,lc,rfl,q1,q2⟩:=hl.sl
 have hm:=lC
 refine jJ 16777501 [(none,(.t 2))] (G:=(λ_ _ _ _ _=>False)) (λ_ _ _ _ _ h=>h.elim) Tryz.func76 ?_
 simp only[go_sem]
 obtain⟨I,hI⟩:=kg (α:=Nat->ku->H->Prop) λi σ h'=>σ 0= .slice la ls.length lc/\σ 4= Jx JT i/\i<=ls.length/\ ∃u',jD S0 u h u' h'/\lm h.size u' h' (σ 3) (uM (ls.take i))
 refine jE I (λi=>ls.length - i) 0 (by rw[hI];exact⟨zJ,zJ,aj _,u,.refl _ _ _,by simp only[jI];exact .nil _ _ _⟩) ?_
 intro i σ h' hy
 rw[hI]at hy
 obtain⟨e0,e4,hi,u',st,ho⟩:=hy
 by_cases hlt:i<ls.length
 ·obtain⟨x,hs⟩:=qP hlt
  obtain⟨pb,po,rfl,hpb,hpu,hpz,hpr⟩:=(hl.mono st.ge).row i x hs
  rw[kP]at hpr
  obtain⟨pv,hpr,hpv⟩:=hpr
  obtain⟨pva,pvc,rfl,r1,r2⟩:=hpv.sl
  simp only[jM.enc,lJ,pm,aP,aJ,ax,aC]at hpr hpu hpz
  obtain⟨p0,p1,p2,p3,-⟩:=hpr
  have hsn:uM (ls.take (i+1))=uM (ls.take i)++if YC x then [(x.2.1,0)]else []:=by
   unfold uM;rw[EO hs,bH];congr 1;cases YC x<;>rfl
  have hk0:h.size<=h'.size:=st.ge.sz
  have hlen:=Cu (ls.take i)
  rw[aR]at hlen
  by_cases hk:x.1=1\/x.1=2
  ·have hA:YC x=true:=by unfold YC;exact bq hk
   rw[hA,ah rfl]at hsn
   have hx:Rep.rep u' h' ((x.2.1,0):yj) [str x.2.1.1,.slice pva x.2.1.2.1.length pvc,Jx JT x.2.1.2.2,Jx JT 0]:=by rw[yf];exact⟨_,rfl,hpv⟩
   have fin: ∀(r:List St) (Q:ku->H->Prop) (KP':List PanicEntry->H->Prop) (σ':ku),(∀a n c u3 h3,lm h.size u3 h3 (.slice a n c) (uM (ls.take i)++[(x.2.1,0)])->jD S0 u h u3 h3->kT (λ_ _ _ _ _=>False) r Q KP' (nD σ' (some 33) (.slice a n c)) h3)->
     nZ (λ_ _ _ _ _=>False) (.app 163 4 56 [str [],.slice none 0 0,Jx JT 0,Jx JT 0]) (some 33) [] r Q KP' [σ 3,.slice (some ⟨h'.size,0,none⟩) 1 1] σ' (h'.push (.cells #[str x.2.1.1,.slice pva x.2.1.2.1.length pvc,Jx JT x.2.1.2.2,Jx JT 0] 163)):=λr Q KP' σ' hq=>
    lM (e':=163) (cs:=[str x.2.1.1,.slice pva x.2.1.2.1.length pvc,Jx JT x.2.1.2.2,Jx JT 0]) ho hx rfl rfl hk0 zO λa n c u3 h3 ho3 s3=>⟨by simp only[rE],hq a n c u3 h3 ho3 (st.own s3 λj hj=>ho.ge hj)⟩
   have next: ∀(σ':ku) (u3:U) (h3:H),σ' 0=σ 0->σ' 4= Jx JT ((i:Int)+1)->jD S0 u h u3 h3->lm h.size u3 h3 (σ' 3) (uM (ls.take i)++[(x.2.1,0)])-> ∃y,I y σ' h3/\ls.length - y<ls.length - i:=λσ' u3 h3 g0 g4 sx ho'=>by
    refine⟨i+1,?_,zO⟩
    rw[hI]
    exact⟨by rw[g0,e0],g4,hlt,u3,sx,by rw[hsn];exact ho'⟩
   rcases hk with hk|hk
   ·simp(disch:=omega) only[↓reduceIte,go_sem,e0,e4,hlt,p0,p1,p2,p3,ai hk]
    refine fin _ _ _ _ λa n c u3 h3 ho3 st3=> ?_
    simp(disch:=omega) only[↓reduceIte,go_sem,e4]
    exact next _ u3 h3 zJ zJ st3 (by simpa [jI]using ho3)
   ·simp(disch:=omega) only[↓reduceIte,go_sem,e0,e4,hlt,p0,p1,p2,p3,ai hk,ae (show¬x.1=1 by omega)]
    refine fin _ _ _ _ λa n c u3 h3 ho3 st3=> ?_
    simp(disch:=omega) only[↓reduceIte,go_sem,e4]
    exact next _ u3 h3 zJ zJ st3 (by simpa [jI]using ho3)
  ·have hA:YC x=false:=by unfold YC;exact aI hk
   rw[hA,af zP,bG]at hsn
   simp(disch:=omega) only[↓reduceIte,go_sem,e0,e4,hlt,p0,ae (show¬x.1=1 by omega),ae (show¬x.1=2 by omega)]
   refine⟨i+1,?_,zO⟩
   rw[hI]
   exact⟨by simp [jI,e0],zJ,hlt,u',st,by rw[hsn];simpa [jI]using ho⟩
 ·obtain rfl:i=ls.length:=zO
  rw[aK]at ho
  simp only[↓reduceIte,go_sem,e0,e4]
  exact hK _ _ _ st ho.iZ
def RJ(vs:List Value)(h:H)(K:Value->H->Prop):Prop:= ∃(u:U) (v w:Value) (p:List jY) (fs:List kZ),vs=[.agg #[v],w]/\jS u h v p/\jS u h w fs/\p.length<=512/\(∀c∈p,c.2.length<=16)/\fs.length<=4096/\ ∀u' h' w,jD S0 u h u' h'->jS u' h' w (kI p fs)->K w h'
def Ap(p:List jY):List yj:=(p.flatMap kJ).map λa=>(a,(0:Int))
theorem RL{p:List jY}{i:Nat}{c:jY}(h:p[i]? =some c):Ap (p.take (i+1))=(Ap (p.take i)++[(c.1,0)])++uM c.2:=by
 unfold Ap;rw[uk h,bH,Mg,bE];rfl
theorem yQ: ∀(p:List jY),(∀c∈p,c.2.length<=16)->(Ap p).length<=17*p.length
 |[],_=>by simp [Ap]
 |c::l,h=>by
  have ih:=yQ l λx hx=>h x (bg _ hx)
  have h1:=h c (bu ..)
  have h2:=Cu c.2
  rw[Mg,aU]at h2
  unfold Ap at ih ⊢
  rw[dD,bH,ay]
  simp only[kJ,aU,au]at ih ⊢
  omega
def aai:lq:=λf vs h K _=>f=76/\RI vs h K
theorem Og:lQ Tryz.prog aai:=by
 rintro f vs h K KP ⟨rfl,hC⟩;exact Jp hC
theorem VP(hC:RJ vs h K):kN Tryz.prog 35 vs h K KP:=by
 obtain⟨u,v,w,p,fs,rfl,hl,hf,hp5,hp16,hf4,hK⟩:=hC
 obtain⟨la,lc,rfl,q1,q2⟩:=hl.sl
 obtain⟨fa,fc,rfl,q3,q4⟩:=hf.sl
 have hm:=lC
 refine jJ 549755822583 [(none,(.t 4))] Og Tryz.func35 ?_
 simp only[↓reduceIte,go_sem]
 have s1:=jD.qZ S0 u h #[.slice la p.length lc] 24
 have B1:=jR.newc (u:=u) (h:=h) [.slice la p.length lc] 24
 have hz1:(h.push (.cells #[.slice la p.length lc] 24)).size=h.size+1:=by simp only[kw]
 obtain⟨I,hI⟩:=kg (α:=Nat->ku->H->Prop) λi σ h'=>σ 1= .slice fa fs.length fc/\σ 2= .pointer (some ⟨h.size,0,none⟩)/\σ 6= Jx JT i/\i<=p.length/\ ∃u',jD S0 u h u' h'/\jR u' h' h.size [.slice la p.length lc]/\h.size+1<=h'.size/\lm (h.size+1) u' h' (σ 5) (Ap (p.take i))
 refine jE I (λi=>p.length - i) 0 (by rw[hI];exact⟨zJ,zJ,zJ,aj _,_,s1,B1,zY,by simp only[jI];exact .nil _ _ _⟩) ?_
 intro i σ h' hy
 rw[hI]at hy
 obtain⟨e1,e2,e6,hi,u',st,B,hz,ho⟩:=hy
 have bl:=B.1
 by_cases hlt:i<p.length
 ·obtain⟨x,hs⟩:=qP hlt
  obtain⟨pb,po,rfl,hpb,hpu,hpz,hpr⟩:=(hl.mono st.ge).row i x hs
  rw[lH]at hpr
  obtain⟨va,vb,hpr,hh,hb⟩:=hpr
  obtain⟨ha,hc,rfl,-,-⟩:=hh.sl
  obtain⟨ba,bc,rfl,-,-⟩:=hb.sl
  simp only[nH,mQ,ax,aC]at hpr hpu hpz
  obtain⟨p0,p1,p2,p3⟩:=hpr
  have hlen:=yQ (p.take i) λc hc=>hp16 c (eP hc)
  rw[aR]at hlen
  have hx16:=hp16 x (aF hs)
  have hx:Rep.rep u' h' ((x.1,0):yj) [str x.1.1,.slice ha x.1.2.1.length hc,Jx JT x.1.2.2,Jx JT 0]:=by rw[yf];exact⟨_,rfl,hh⟩
  simp(disch:=first|omega|simp only[zz];try omega;done) only[↓reduceIte,go_sem,e2,e6,B.at,B.2.1,hlt,p0,p1,p2]
  refine lM (e':=163) (cs:=[str x.1.1,.slice ha x.1.2.1.length hc,Jx JT x.1.2.2,Jx JT 0]) ho hx rfl rfl hz zO λa n c u3 h3 ho3 s3=>⟨jO,?_⟩
  have st3:=st.own s3 λj hj=>by have:=ho.ge hj;omega
  have B3:=B.step s3 λhj=>by have:=ho.ge hj;omega
  have hz3:=s3.ge.sz
  have b3l:=B3.1
  obtain⟨pb',po',hpe,hpb3,hpu3,hpz3,hpr3⟩:=(hl.mono st3.ge).row i x hs
  simp only[aQ,Addr.mk.injEq,aC]at hpe
  obtain⟨rfl,rfl⟩:=hpe
  rw[lH]at hpr3
  obtain⟨va3,vb3,hpr3,hh3,hb3⟩:=hpr3
  obtain⟨ha3,hc3,rfl,-,-⟩:=hh3.sl
  obtain⟨ba3,bc3,rfl,-,-⟩:=hb3.sl
  simp only[nH,mQ,ax,aC]at hpr3 hpu3 hpz3
  obtain⟨g0,g1,g2,g3⟩:=hpr3
  simp(disch:=first|omega|simp only[zz];try omega;done) only[↓reduceIte,go_sem,e2,e6,B3.at,B3.2.1,hlt,g3]
  refine jC ⟨rfl,u3,_,x.2,rfl,hb3,zO,λu4 h4 w4 s4 hw4=>⟨jO,?_⟩⟩
  have st4:=st3.tZ s4
  have B4:=B3.sZ s4
  have ho4:=ho3.sZ s4
  have hz4:=s4.ge.sz
  have hsl:=Cu x.2
  simp only[↓reduceIte,go_sem]
  refine lV ho4 hw4 rfl rfl zO (by rw[ay,aZ];omega) λa5 n5 c5 u5 h5 ho5 s5=>⟨jO,?_⟩
  have st5:=st4.own s5 λj hj=>by have:=ho4.ge hj;omega
  have B5:=B4.step s5 λhj=>by have:=ho4.ge hj;omega
  have hz5:=s5.ge.sz
  simp(disch:=omega) only[↓reduceIte,go_sem,e6]
  refine⟨i+1,?_,zO⟩
  rw[hI]
  exact⟨by simp [jI,e1],by simp [jI,e2],zJ,hlt,u5,st5,B5,zO,by rw[RL hs];simpa [jI]using ho5⟩
 ·obtain rfl:i=p.length:=zO
  rw[aK]at ho
  have hlen:=yQ p hp16
  simp(disch:=first|omega|simp only[zz];try omega;done) only[↓reduceIte,go_sem,e2,e6,B.at,B.2.1]
  clear hI I
  obtain⟨J,hJ⟩:=kg (α:=Nat->ku->H->Prop) λi σ h'=>σ 1= .slice fa fs.length fc/\σ 8= Jx JT i/\i<=fs.length/\ ∃u',jD S0 u h u' h'/\h.size+1<=h'.size/\lm (h.size+1) u' h' (σ 5) (Ap p++(fs.take i).map λa=>(a,(1:Int)))
  refine jE J (λi=>fs.length - i) 0 (by rw[hJ];exact⟨by simp [jI,e1],zJ,aj _,u',st,hz,by simpa [jI]using ho⟩) ?_
  clear e1 e2 e6 ho st B bl hz hi hlt
  intro i σ h' hy
  rw[hJ]at hy
  obtain⟨e1,e8,hi,u',st,hz,ho⟩:=hy
  by_cases hlt:i<fs.length
  ·obtain⟨x,hs⟩:=qP hlt
   obtain⟨pb,po,rfl,hpb,hpu,hpz,hpr⟩:=(hf.mono st.ge).row i x hs
   rw[kE]at hpr
   obtain⟨va,hpr,hh⟩:=hpr
   obtain⟨ha,hc,rfl,-,-⟩:=hh.sl
   simp only[qK,uq,ax,aC]at hpr hpu hpz
   obtain⟨p0,p1,p2⟩:=hpr
   have hx:Rep.rep u' h' ((x,1):yj) [str x.1,.slice ha x.2.1.length hc,Jx JT x.2.2,Jx JT 1]:=by rw[yf];exact⟨_,rfl,hh⟩
   simp(disch:=omega) only[↓reduceIte,go_sem,e1,e8,hlt,p0,p1,p2]
   refine lM (e':=163) (cs:=[str x.1,.slice ha x.2.1.length hc,Jx JT x.2.2,Jx JT 1]) ho hx rfl rfl hz (by rw[ay,aU,aR];omega) λa n c u3 h3 ho3 s3=>⟨jO,?_⟩
   have st3:=st.own s3 λj hj=>by have:=ho.ge hj;omega
   have hz3:=s3.ge.sz
   simp(disch:=omega) only[↓reduceIte,go_sem,e8]
   refine⟨i+1,?_,zO⟩
   rw[hJ]
   exact⟨by simp [jI,e1],zJ,hlt,u3,st3,zO,by rw[nU hs,<-bE];simpa [jI]using ho3⟩
  ·obtain rfl:i=fs.length:=zO
   rw[aK]at ho
   simp only[↓reduceIte,go_sem,e1,e8]
   exact hK _ _ _ st ho.iZ
end Go.Proofs.Z
namespace Edict
theorem EN(l:List (jM×Int))(t:jM)(k:Int):lT 0 (l++[(t,k)])=lT 0 l++[(t,k,(l.length:Int))]:=by
 rw[Jt];simp [lT]
theorem aaf{p:List jY}{i:Nat}{c:jY}(h:p[i]? =some c):wQ (p.take (i+1))=wQ (p.take i)++(kC c).map λt=>(t,(0:Int)):=by
 unfold wQ;rw[uk h,bH]
theorem aag{p:List kZ}{i:Nat}{c:kZ}(h:p[i]? =some c):Au (p.take (i+1))=Au (p.take i)++c.2.1.map λt=>(t,(1:Int)):=by
 unfold Au;rw[uk h,bH]
theorem Jn{p:List jY}(h: ∀c∈p,(kC c).length<=136):(wQ p).length<=p.length*136:=by
 unfold wQ;rw[aU];exact Ed h
theorem RF{p:List kZ}(h: ∀c∈p,c.2.1.length<=8):(Au p).length<=p.length*8:=by
 unfold Au;rw[aU];exact Ed h
end Edict
namespace Go.Proofs.Z
open Go Go.Ev Edict
variable {vs:List Value} {h:H} {K:Value->H->Prop} {KP:List PanicEntry->H->Prop}
def FL(x:jZ):Prop:=x.1=1\/x.1=2\/x.1=3
def Jo(vs:List Value)(h:H)(K:Value->H->Prop):Prop:= ∃(u:U) (v:Value) (ls:List jZ),vs=[v]/\jS u h v ls/\(ls.flatMap kQ).length<=1000000/\(∀x∈ls,FL x)/\ ∀u' h' w,jD S0 u h u' h'->jS u' h' w (ls.flatMap kQ)->K w h'
theorem Ao(hC:Jo vs h K):kN Tryz.prog 80 vs h K KP:=by
 obtain⟨u,v,ls,rfl,hl,hbk,hkd,hK⟩:=hC
 obtain⟨la,lc,rfl,q1,q2⟩:=hl.sl
 have hm:=lC
 refine jJ 65821 [(none,(.t 2))] (G:=(λ_ _ _ _ _=>False)) (λ_ _ _ _ _ h=>h.elim) Tryz.func80 ?_
 simp only[go_sem]
 obtain⟨I,hI⟩:=kg (α:=Nat->ku->H->Prop) λi σ h'=>σ 0= .slice la ls.length lc/\σ 4= Jx JT i/\i<=ls.length/\ ∃u',jD S0 u h u' h'/\lm h.size u' h' (σ 3) ((ls.take i).flatMap kQ)
 refine jE I (λi=>ls.length - i) 0 (by rw[hI];exact⟨zJ,zJ,aj _,u,.refl _ _ _,by simp only[jI];exact .nil _ _ _⟩) ?_
 intro i σ h' hy
 rw[hI]at hy
 obtain⟨e0,e4,hi,u',st,ho⟩:=hy
 by_cases hlt:i<ls.length
 ·obtain⟨x,hs⟩:=qP hlt
  obtain⟨pb,po,rfl,hpb,hpu,hpz,hpr⟩:=(hl.mono st.ge).row i x hs
  rw[kP]at hpr
  obtain⟨pv,hpr,hpv⟩:=hpr
  obtain⟨pva,pvc,rfl,r1,r2⟩:=hpv.sl
  simp only[jM.enc,lJ,pm,aP,aJ,ax,aC]at hpr hpu hpz
  obtain⟨p0,p1,p2,p3,p4,p5,p6,p7,p8,p9,p10,p11,p12,p13⟩:=hpr
  have hfl:=Ol (f:=kQ) hs
  have hsn:=uk (f:=kQ) hs
  have hk0:h.size<=h'.size:=st.ge.sz
  have hkx:=hkd x (aF hs)
  by_cases hk:x.1=3
  ·have htl:kQ x=[x.2.2.2.1,x.2.2.2.2.1]:=by unfold kQ;rw[af zO,ah hk]
   rw[htl]at hfl hsn
   simp only[au,aA]at hfl
   simp(disch:=omega) only[↓reduceIte,go_sem,e0,e4,hlt,p0,p5,p6,p7,p8,p9,p10,p11,p12,ai hk]
   have hsl:=(lm.made (k:=0) (α:=jM) u' h' (aj _) 74 [x.2.2.2.1,x.2.2.2.2.1] (jM.enc x.2.2.2.1++jM.enc x.2.2.2.2.1) rfl (by simp only[au,aA];decide) (λi y hx=>by
     match i with
     |0=>cases hx;rw[ko];rfl
     |1=>cases hx;rw[ko];rfl
     |i+2=>simp at hx)).iZ
   have sp2:=jD.push S0 u' h' (jM.enc x.2.2.2.1++jM.enc x.2.2.2.2.1).toArray 74 (2*4)
   simp only[jM.enc,aP,aJ,au,aA,bJ,Nat.reduceAdd,Nat.reduceMul,lG]at hsl sp2
   refine lV (ho.sZ sp2) hsl rfl rfl zY (by simp only[au,aA];omega) λa n c u3 h3 ho3 s3=>⟨jO,?_⟩
   simp(disch:=omega) only[↓reduceIte,go_sem,e4]
   refine⟨i+1,?_,zO⟩
   rw[hI]
   exact⟨by simp [jI,e0],zJ,hlt,u3,(st.tZ sp2).own s3 λj hj=>ho.ge hj,by rw[hsn];simpa [jI]using ho3⟩
  ·have htl:kQ x=x.2.1.2.1:=by unfold kQ;rw[ah (by rcases hkx with h|h|h<;>omega)];rfl
   rw[htl]at hfl hsn
   simp(disch:=omega) only[↓reduceIte,go_sem,e0,e4,hlt,p0,p2,ae hk]
   refine lV ho hpv rfl rfl hk0 zO λa n c u3 h3 ho3 s3=>⟨jO,?_⟩
   simp(disch:=omega) only[↓reduceIte,go_sem,e4]
   refine⟨i+1,?_,zO⟩
   rw[hI]
   exact⟨by simp [jI,e0],zJ,hlt,u3,st.own s3 λj hj=>ho.ge hj,by rw[hsn];simpa [jI]using ho3⟩
 ·obtain rfl:i=ls.length:=zO
  rw[aK]at ho
  simp only[↓reduceIte,go_sem,e0,e4]
  exact hK _ _ _ st ho.iZ
def RG(vs:List Value)(h:H)(K:Value->H->Prop):Prop:= ∃(u:U) (v w:Value) (p:List jY) (fs:List kZ),vs=[.agg #[v],w]/\jS u h v p/\jS u h w fs/\p.length<=512/\(∀c∈p,(kC c).length<=136/\ ∀x∈c.2,FL x)/\fs.length<=4096/\(∀a∈fs,a.2.1.length<=8)/\ ∀u' h' w,jD S0 u h u' h'->jS u' h' w (sQ p fs)->K w h'
def aah:lq:=λf vs h K _=>f=80/\Jo vs h K
theorem Oe:lQ Tryz.prog aah:=by
 rintro f vs h K KP ⟨rfl,hC⟩;exact Ao hC
theorem VO(hC:RG vs h K):kN Tryz.prog 38 vs h K KP:=by
 obtain⟨u,v,w,p,fs,rfl,hl,hf,hp5,hpT,hf4,hf8,hK⟩:=hC
 obtain⟨la,lc,rfl,q1,q2⟩:=hl.sl
 obtain⟨fa,fc,rfl,q3,q4⟩:=hf.sl
 have hm:=lC
 refine jJ 147718069976775593975 [(none,(.t 4))] Oe Tryz.func38 ?_
 simp only[↓reduceIte,go_sem]
 have s1:=jD.qZ S0 u h #[.slice la p.length lc] 24
 have B1:=jR.newc (u:=u) (h:=h) [.slice la p.length lc] 24
 obtain⟨I,hI⟩:=kg (α:=Nat->ku->H->Prop) λi σ h'=>σ 1= .slice fa fs.length fc/\σ 2= .pointer (some ⟨h.size,0,none⟩)/\σ 6= Jx JT i/\i<=p.length/\ ∃u',jD S0 u h u' h'/\jR u' h' h.size [.slice la p.length lc]/\h.size+1<=h'.size/\lm (h.size+1) u' h' (σ 5) (lT 0 (wQ (p.take i)))
 refine jE I (λi=>p.length - i) 0 (by rw[hI];exact⟨zJ,zJ,zJ,aj _,_,s1,B1,zY,by simp only[jI];exact .nil _ _ _⟩) ?_
 intro i σ h' hy
 rw[hI]at hy
 obtain⟨e1,e2,e6,hi,u',st,B,hz,ho⟩:=hy
 have bl:=B.1
 by_cases hlt:i<p.length
 ·obtain⟨x,hs⟩:=qP hlt
  obtain⟨pb,po,rfl,hpb,hpu,hpz,hpr⟩:=(hl.mono st.ge).row i x hs
  rw[lH]at hpr
  obtain⟨va,vb,hpr,hh,hb⟩:=hpr
  obtain⟨ha,hc,rfl,-,-⟩:=hh.sl
  obtain⟨ba,bc,rfl,-,-⟩:=hb.sl
  simp only[nH,mQ,ax,aC]at hpr hpu hpz
  obtain⟨p0,p1,p2,p3⟩:=hpr
  obtain⟨Ub,Uc⟩:=hpT x (aF hs)
  have hx1':x.1.2.1.length+(x.2.flatMap kQ).length<=136:=by
   have:=Ub;unfold kC at this;rw[ay]at this;exact this
  have hlen:=Jn (p:=p.take i) λc hc=>(hpT c (eP hc)).1
  rw[aR]at hlen
  simp(disch:=first|omega|simp only[zz];try omega;done) only[↓reduceIte,go_sem,e2,e6,B.at,B.2.1,hlt,p1]
  have o1:=ui (α:=jM) h'.size u' h' (ak _) 74
  have spA:=jD.qZ S0 u' h' #[] 74
  have BA:=B.sZ spA
  have hoA:=ho.sZ spA
  refine lV (k:=h'.size) o1 (hh.mono spA.ge) rfl rfl zY (by simp only[aA];omega) λa n k u3 h3 ho3 s3=>⟨jO,?_⟩
  have hne: ∀j,jL (.slice (some ⟨h'.size,0,none⟩) 0 0) j->h'.size=j:=λj hj=>by
   obtain⟨y1,y2,y3,e⟩:=hj
   simp only[Value.slice.injEq,aQ,Addr.mk.injEq]at e
   exact e.1.1
  have st3:=(st.tZ spA).own s3 λj hj=>by have:=hne j hj;omega
  have B3:=BA.step s3 λhj=>by have:=hne _ hj;omega
  have hoB: ∀j,jL (σ 5) j->j<h'.size:=λj hj=>ho.lt hj
  have ho5:=hoA.step s3 (λj hj hj2=>by have:=hoB j hj;have:=hne j hj2;omega)
  have hz3:=s3.ge.sz
  simp only[kw]at hz3
  simp only[aJ]at ho3
  have b3l:=B3.1
  obtain⟨pb',po',hpe,hpb3,hpu3,hpz3,hpr3⟩:=(hl.mono st3.ge).row i x hs
  simp only[aQ,Addr.mk.injEq,aC]at hpe
  obtain⟨rfl,rfl⟩:=hpe
  rw[lH]at hpr3
  obtain⟨va3,vb3,hpr3,hh3,hb3⟩:=hpr3
  obtain⟨ha3,hc3,rfl,-,-⟩:=hh3.sl
  obtain⟨ba3,bc3,rfl,-,-⟩:=hb3.sl
  simp only[nH,mQ,ax,aC]at hpr3 hpu3 hpz3
  obtain⟨g0,g1,g2,g3⟩:=hpr3
  simp(disch:=first|omega|simp only[zz];try omega;done) only[↓reduceIte,go_sem,e2,e6,B3.at,B3.2.1,hlt,g3]
  refine jC ⟨rfl,u3,_,x.2,rfl,hb3,zO,Uc,λu4 h4 w4 s4 hw4=>⟨jO,?_⟩⟩
  have st4:=st3.tZ s4
  have B4:=B3.sZ s4
  have ho4:=ho3.sZ s4
  have hoT4:=ho5.sZ s4
  have hz4:=s4.ge.sz
  simp only[↓reduceIte,go_sem]
  refine lV ho4 hw4 rfl rfl zO zO λa5 n5 c5 u5 h5 ho5' s5=>⟨jO,?_⟩
  have st5:=st4.own s5 λj hj=>by have:=ho4.ge hj;omega
  have B5:=B4.step s5 λhj=>by have:=ho4.ge hj;omega
  have hoT5:=hoT4.step s5 (λj hj hj2=>by have:=hoB j hj;have:=ho4.ge hj2;omega)
  have hz5:=s5.ge.sz
  obtain⟨ta,tc,htv,-,-⟩:=ho5'.sl
  have iT:=ho5'.iZ
  rw[htv]at iT ⊢
  have hTe:x.1.2.1++x.2.flatMap kQ=kC x:=rfl
  rw[hTe]at iT ⊢
  obtain⟨T,hT⟩:=kg (kC x)
  rw[<-hT]at iT Ub ⊢
  simp only[↓reduceIte,go_sem]
  obtain⟨J,hJ⟩:=kg (α:=Nat->ku->H->Prop) λj σ h'=>σ 1= .slice fa fs.length fc/\σ 2= .pointer (some ⟨h.size,0,none⟩)/\σ 6= Jx JT i/\σ 7= .slice ta T.length tc/\σ 9= Jx JT j/\j<=T.length/\ ∃u',jD S0 u h u' h'/\jR u' h' h.size [.slice (some ⟨pb,po,none⟩) p.length lc]/\h.size+1<=h'.size/\lm (h.size+1) u' h' (σ 5) (lT 0 (wQ (p.take i)++(T.take j).map λt=>(t,(0:Int))))/\jS u' h' (.slice ta T.length tc) T
  refine jE J (λj=>T.length - j) 0 (by rw[hJ];exact⟨by simp [jI,e1],by simp [jI,e2],by simp [jI,e6],zJ,zJ,aj _,u5,st5,B5,zO,by simpa [jI]using hoT5,iT⟩) ?_
  have hpi: ∀y∈p.take i,(kC y).length<=136:=λc hc=>(hpT c (eP hc)).1
  clear st5 B5 hoT5 iT hz5 ho5' s5 st4 B4 ho4 hoT4 hz4 s4 hw4 ho5 ho3 s3 B3 st3 b3l g0 g1 g2 g3 hh3 hb3 hpb3 hpu3 hpz3 htv hne
  intro j τ h7 hy
  rw[hJ]at hy
  obtain⟨f1,f2,f6,f7,f9,hj,u7,st7,B7,hz7,ho7,iT⟩:=hy
  by_cases hjl:j<T.length
  ·obtain⟨t,ht⟩:=qP hjl
   obtain⟨qb,qo,hqe,hqb,hqu,hqz,hqr⟩:=iT.row j t ht
   subst hqe
   simp only[ko,jM.enc,lG,mQ,ax,aC]at hqr hqu hqz
   obtain⟨t0,t1,t2,t3⟩:=hqr
   obtain⟨L,hL⟩:=kg (wQ (p.take i)++(T.take j).map λt=>(t,(0:Int)))
   rw[<-hL]at ho7
   have hLl:L.length<=70000:=by rw[hL,ay,aU,aR];omega
   have hEl:=Aq L 0
   obtain⟨sa,sc,hσ5,-,-⟩:=ho7.sl
   rw[hσ5]at ho7
   have hx:Rep.rep u7 h7 ((t,0,((lT 0 L).length:Int)):nV) [Jx JT t.1,Jx JT t.2.1,str t.2.2.1,Jx JT t.2.2.2,Jx JT 0,Jx JT (lT 0 L).length]:=by rw[ni];rfl
   simp(disch:=omega) only[↓reduceIte,go_sem,f7,f9,hjl,t0,t1,t2,t3,hσ5]
   refine lM (e':=106) (cs:=[Jx JT t.1,Jx JT t.2.1,str t.2.2.1,Jx JT t.2.2.2,Jx JT 0,Jx JT (lT 0 L).length]) ho7 hx rfl rfl hz7 zO λa n c u8 h8 ho8 s8=>⟨jO,?_⟩
   have st8:=st7.own s8 λj hj=>by have:=ho7.ge hj;omega
   have B8:=B7.step s8 λhj=>by have:=ho7.ge hj;omega
   have hz8:=s8.ge.sz
   simp(disch:=omega) only[↓reduceIte,go_sem,f9]
   refine⟨j+1,?_,zO⟩
   rw[hJ]
   have hsn:lT 0 (wQ (p.take i)++(T.take (j+1)).map λt=>(t,(0:Int)))=lT 0 L++[(t,0,((lT 0 L).length:Int))]:=by
    rw[nU ht,<-bE,<-hL,EN,hEl]
   exact⟨by simp [jI,f1],by simp [jI,f2],by simp [jI,f6],by simp [jI,f7],zJ,hjl,u8,st8,B8,zO,by rw[hsn];simpa [jI]using ho8,iT.mono s8.ge⟩
  ·obtain rfl:j=T.length:=zO
   rw[aK]at ho7
   simp(disch:=omega) only[↓reduceIte,go_sem,f6,f7,f9]
   refine⟨i+1,?_,zO⟩
   rw[hI]
   exact⟨by simp [jI,f1],by simp [jI,f2],zJ,hlt,u7,st7,B7,hz7,by rw[aaf hs,<-hT];simpa [jI]using ho7⟩
 ·obtain rfl:i=p.length:=zO
  rw[aK]at ho
  have hlen:=Jn λc hc=>(hpT c hc).1
  simp(disch:=first|omega|simp only[zz];try omega;done) only[↓reduceIte,go_sem,e2,e6,B.at,B.2.1]
  clear hI I
  obtain⟨I,hI⟩:=kg (α:=Nat->ku->H->Prop) λi σ h'=>σ 1= .slice fa fs.length fc/\σ 10= Jx JT i/\i<=fs.length/\ ∃u',jD S0 u h u' h'/\h.size+1<=h'.size/\lm (h.size+1) u' h' (σ 5) (lT 0 (wQ p++Au (fs.take i)))
  refine jE I (λi=>fs.length - i) 0 (by rw[hI];exact⟨by simp [jI,e1],zJ,aj _,u',st,hz,by simpa [jI,Au]using ho⟩) ?_
  clear e1 e2 e6 ho st B bl hz hi hlt
  intro i σ h' hy
  rw[hI]at hy
  obtain⟨e1,e10,hi,u',st,hz,ho⟩:=hy
  by_cases hlt:i<fs.length
  ·obtain⟨x,hs⟩:=qP hlt
   have hx8:=hf8 x (aF hs)
   have hla:=RF (p:=fs.take i) λc hc=>hf8 c (eP hc)
   rw[aR]at hla
   simp only[↓reduceIte,go_sem,e1,e10,hlt]
   obtain⟨J,hJ⟩:=kg (α:=Nat->ku->H->Prop) λj σ h'=>σ 1= .slice fa fs.length fc/\σ 10= Jx JT i/\σ 11= Jx JT j/\j<=x.2.1.length/\ ∃u',jD S0 u h u' h'/\h.size+1<=h'.size/\lm (h.size+1) u' h' (σ 5) (lT 0 ((wQ p++Au (fs.take i))++(x.2.1.take j).map λt=>(t,(1:Int))))
   refine jE J (λj=>x.2.1.length - j) 0 (by rw[hJ];exact⟨by simp [jI,e1],by simp [jI,e10],zJ,aj _,u',st,hz,by simpa [jI]using ho⟩) ?_
   clear st ho hz
   intro j τ h7 hy
   rw[hJ]at hy
   obtain⟨f1,f10,f11,hj,u7,st7,hz7,ho7⟩:=hy
   obtain⟨pb,po,hpe,hpb,hpu,hpz,hpr⟩:=(hf.mono st7.ge).row i x hs
   subst hpe
   rw[kE]at hpr
   obtain⟨va,hpr,hh⟩:=hpr
   obtain⟨ha,hc,rfl,-,-⟩:=hh.sl
   simp only[qK,uq,ax,aC]at hpr hpu hpz
   obtain⟨p0,p1,p2⟩:=hpr
   by_cases hjl:j<x.2.1.length
   ·obtain⟨t,ht⟩: ∃t,x.2.1[j]? =some t:=⟨x.2.1[j],by simp [hjl]⟩
    obtain⟨qb,qo,hqe,hqb,hqu,hqz,hqr⟩:=hh.row j t ht
    subst hqe
    simp only[ko,jM.enc,lG,mQ,ax,aC]at hqr hqu hqz
    obtain⟨t0,t1,t2,t3⟩:=hqr
    obtain⟨L,hL⟩:=kg ((wQ p++Au (fs.take i))++(x.2.1.take j).map λt=>(t,(1:Int)))
    rw[<-hL]at ho7
    have hLl:L.length<=200000:=by rw[hL,ay,ay,aU,aR];omega
    have hEl:=Aq L 0
    obtain⟨sa,sc,hσ5,-,-⟩:=ho7.sl
    rw[hσ5]at ho7
    have hx:Rep.rep u7 h7 ((t,1,((lT 0 L).length:Int)):nV) [Jx JT t.1,Jx JT t.2.1,str t.2.2.1,Jx JT t.2.2.2,Jx JT 1,Jx JT (lT 0 L).length]:=by rw[ni];rfl
    simp(disch:=omega) only[↓reduceIte,go_sem,f1,f10,f11,hlt,hjl,p1,t0,t1,t2,t3,hσ5]
    refine lM (e':=106) (cs:=[Jx JT t.1,Jx JT t.2.1,str t.2.2.1,Jx JT t.2.2.2,Jx JT 1,Jx JT (lT 0 L).length]) ho7 hx rfl rfl hz7 zO λa n c u8 h8 ho8 s8=>⟨jO,?_⟩
    have st8:=st7.own s8 λj hj=>by have:=ho7.ge hj;omega
    have hz8:=s8.ge.sz
    simp(disch:=omega) only[↓reduceIte,go_sem,f11]
    refine⟨j+1,?_,zO⟩
    rw[hJ]
    have hsn:lT 0 ((wQ p++Au (fs.take i))++(x.2.1.take (j+1)).map λt=>(t,(1:Int)))=lT 0 L++[(t,1,((lT 0 L).length:Int))]:=by
     rw[nU ht,<-bE,<-hL,EN,hEl]
    exact⟨by simp [jI,f1],by simp [jI,f10],zJ,hjl,u8,st8,zO,by rw[hsn];simpa [jI]using ho8⟩
   ·obtain rfl:j=x.2.1.length:=zO
    rw[aK]at ho7
    simp(disch:=omega) only[↓reduceIte,go_sem,f1,f10,f11,hlt,p1]
    refine⟨i+1,?_,zO⟩
    rw[hI]
    exact⟨by simp [jI,f1],zJ,hlt,u7,st7,hz7,by rw[aag hs,<-bE];simpa [jI]using ho7⟩
  ·obtain rfl:i=fs.length:=zO
   rw[aK]at ho
   simp only[↓reduceIte,go_sem,e1,e10]
   exact hK _ _ _ st ho.iZ
end Go.Proofs.Z
namespace Edict
variable {t:jM} {vs:lN}
theorem Oc{α:Type}{f:α->Bool}{t:α}: ∀{l:List α} {i:Nat},l[i]? =some t->(∀s∈l.take i,f s=false)->f t=true->l.find? f=some t
 |[],i,h,_,_=>by simp at h
 |a::l,0,h,_,hb=>by simp only[bO,aQ]at h;subst h;simp [hb]
 |a::l,i+1,h,hn,hb=>by
  rw[fF (by simp [hn a zP])]
  exact Oc (l:=l) (i:=i) (by simpa using h) (λs hs=>hn s (by simp [hs])) hb
theorem VL{l:List jM}:qM vs (t::l)=if 16<(kV vs t).length then some t else qM (kV vs t) l:=rfl
theorem Jk(h:kF vs t=true):kV vs t=vs++[t.2.2.1]:=by unfold kV;rw[ah (vK.1 h)]
theorem Jl(h:kF vs t=false):kV vs t=vs:=by unfold kV;rw[af λe=>by rw[vK.2 e]at h;cases h]
end Edict
namespace Go.Proofs.Z
open Go Go.Ev Edict
variable {vs:List Value} {h:H} {K:Value->H->Prop} {KP:List PanicEntry->H->Prop}
/-! ### Names -/
def Jm(vs:List Value)(h:H)(K:Value->H->Prop):Prop:= ∃(u:U) (v:Value) (ps:List kK) (s:List UInt8),vs=[v,str s]/\jS u h v ps/\K (Jx JT (lW ps s)) h
theorem BC(hC:Jm vs h K):kN Tryz.prog 77 vs h K KP:=by
 obtain⟨u,v,l,s,rfl,hl,hK⟩:=hC
 obtain⟨la,lc,rfl,q1,q2⟩:=hl.sl
 have hm:=lC
 refine jJ 262707 [(none,(.t 4))] (G:=(λ_ _ _ _ _=>False)) (λ_ _ _ _ _ h=>h.elim) Tryz.func77 ?_
 simp only[go_sem]
 obtain⟨I,hI⟩:=kg (α:=Nat->ku->H->Prop) λi σ h'=>σ 0= .slice la l.length lc/\σ 1=str s/\σ 5= Jx JT i/\i<=l.length/\s ∉ (l.map (·.1)).take i/\h'=h
 refine jE I (λi=>l.length - i) 0 (by rw[hI];exact⟨zJ,zJ,zJ,aj _,zP,rfl⟩) ?_
 intro i σ h' hy
 rw[hI]at hy
 obtain⟨e0,e1,e5,hi,hno,rfl⟩:=hy
 by_cases hlt:i<l.length
 ·obtain⟨x,hs⟩:=qP hlt
  obtain⟨pb,po,rfl,hpb,hpu,hpz,hpr⟩:=hl.row i x hs
  simp only[Ak,NQ,CP,ax,aC]at hpr hpu hpz
  have hsm:(l.map (·.1))[i]? =some x.1:=by rw[bL,hs];rfl
  by_cases he:x.1=s
  ·simp(disch:=omega) only[↓reduceIte,go_sem,e0,e1,e5,hlt,hpr.1,ai he]
   have:lW l s=i:=yg hno (by rw[hsm,he])
   rw[this]at hK;exact hK
  ·simp(disch:=omega) only[↓reduceIte,go_sem,e0,e1,e5,hlt,hpr.1,ae he]
   refine⟨i+1,?_,zO⟩
   rw[hI]
   refine⟨by simp [jI,e0],by simp [jI,e1],zJ,hlt,?_,rfl⟩
   rw[aX,hsm,bC,aV,aY]
   rintro (h|h)
   ·exact hno h
   ·exact he h.symm
 ·obtain rfl:i=l.length:=zO
  rw[cB (by rw[aU];exact ak _)]at hno
  simp only[↓reduceIte,go_sem,e0,e5]
  have:lW l s= -1:=Jr hno
  rw[this]at hK;exact hK
/-! ### Variables -/
def RA(vs:List Value)(h:H)(K:Value->H->Prop):Prop:= ∃(u:U) (v w:Value) (c:jY),vs=[v,w]/\jS u h v c.1.2.1/\jS u h w c.2/\Rep.bulk c<=1048576/\
 ∀u' h' (t:jM) (b:Bool),jD S0 u h u' h'->wJ c=(if b then some t else none)->K (.tuple #[.agg (jM.enc t).toArray,.bool b]) h'
theorem RB(hC:RA vs h K):kN Tryz.prog 79 vs h K KP:=by
 obtain⟨u,v,w,⟨⟨hp,hargs,hoff⟩,ls⟩,rfl,hh,hl,hbk,hK⟩:=hC
 obtain⟨hb1,hb2,hb3⟩:=FN hbk
 simp only at hh hl hb1 hb2 hb3
 obtain⟨ha,hc,rfl,-,-⟩:=hh.sl
 obtain⟨la,lc,rfl,q1,q2⟩:=hl.sl
 have hm:=lC
 refine jJ 37037604435073958899 [((some (.c1 (.ldn 4) (.t 4))),(.o1 (.ldn 4) (.t 4))),(none,(.t 5))] KQ Tryz.func79 ?_
 simp only[↓reduceIte,go_sem]
 have sp:=jD.qZ S0 u h #[Jx JT 0,Jx JT 0,str [],Jx JT 0] 74
 have B0:jR (ub u h.size 0) (h.push (.cells #[Jx JT 0,Jx JT 0,str [],Jx JT 0] 74)) h.size [Jx JT 0,Jx JT 0,str [],Jx JT 0]:=(jR.mk zY zE zE (by repeat (first|(refine lU ?_;simp only[];done)|apply kG)) zE)
 refine jC (.inl ⟨rfl,_,_,ls,rfl,hl.mono sp.ge,hb1,λu1 h1 w s1 hw=>⟨jO,?_⟩⟩)
 have st1:=sp.tZ s1
 have B1:=B0.sZ s1
 have hB1:=B1.1
 obtain⟨vs,hvd⟩:=kg (jF ls)
 rw[<-hvd]at hw
 simp only[↓reduceIte,go_sem,jN]
 have o1:=ui (α:=jM) h1.size u1 h1 (ak _) 74
 have sp2:=jD.qZ S0 u1 h1 #[] 74
 have st2:=st1.tZ sp2
 have B2:=B1.sZ sp2
 refine lV (k:=h1.size) o1 (hh.mono st2.ge) rfl rfl zY (by simp only[aA];omega) λa n k u3 h3 ho3 s3=>⟨jO,?_⟩
 have st3:jD S0 u h u3 h3:=st2.trans s3 (λb hb hB=>by have:=o1.ge hB;omega)
 have B3:=B2.step s3 (λhB=>by have:=o1.ge hB;omega)
 have hw3:=hw.mono (jD.ge (S:=λb=>jL (.slice (some ⟨h1.size,0,none⟩) 0 0) b) ((sp2.mono (λ_ _ h=>h.elim)).trans s3 (λ_ _ h=>h)))
 rw[aJ]at ho3
 simp only[↓reduceIte,go_sem,jN]
 obtain⟨I,hI⟩:=kg (α:=Nat->ku->H->Prop) λi σ h'=>σ 1= .slice la ls.length lc/\σ 4= .pointer (some ⟨h.size,0,none⟩)/\σ 6=w/\σ 8= Jx JT i/\i<=ls.length/\ ∃u',jD S0 u h u' h'/\jR u' h' h.size [Jx JT 0,Jx JT 0,str [],Jx JT 0]/\jS u' h' w vs/\lm (h.size+1) u' h' (σ 7) (hargs++(ls.take i).flatMap tq)
 refine jE I (λi=>ls.length - i) 0 (by rw[hI];exact⟨zJ,zJ,zJ,zJ,aj _,u3,st3,B3,hw3,by simpa [jI]using ho3.mono zO⟩) ?_
 clear ho3 hw3 B3 st3 s3 B2 st2 sp2 o1 hw B1 st1 s1 B0 sp
 intro i σ h' hy
 rw[hI]at hy
 obtain⟨e1,e4,e6,e8,hi,u',st,b0,hw,ho⟩:=hy
 have hne: ∀b,jL (σ 7) b->h.size+1<=b:=λb hb=>ho.ge hb
 have hk0:=b0.1
 by_cases hlt:i<ls.length
 ·skip
  obtain⟨x,hs⟩:=qP hlt
  obtain⟨pb,po,rfl,hpb,hpu,hpz,hpr⟩:=(hl.mono st.ge).row i x hs
  have hprs:=hpr
  rw[kP]at hpr
  obtain⟨pv,hpr,hpv⟩:=hpr
  obtain⟨pva,pvc,rfl,r1,r2⟩:=hpv.sl
  have hcs:qV h' pb (po+i*Rep.sz jZ) (Rep.sz jZ)= #[Jx JT x.1,str x.2.1.1,.slice pva x.2.1.2.1.length pvc,Jx JT x.2.1.2.2,Jx JT x.2.2.1,Jx JT x.2.2.2.1.1,Jx JT x.2.2.2.1.2.1,str x.2.2.2.1.2.2.1,Jx JT x.2.2.2.1.2.2.2,Jx JT x.2.2.2.2.1.1,Jx JT x.2.2.2.2.1.2.1,str x.2.2.2.2.1.2.2.1,Jx JT x.2.2.2.2.1.2.2.2,Jx JT x.2.2.2.2.2].toList:=by rw[hpr];rfl
  rw[hcs]at hprs
  simp only[jM.enc,lJ,pm,aP,aJ,ax,aC]at hpr hpu hpz
  obtain⟨p0,p1,p2,p3,p4,p5,p6,p7,p8,p9,p10,p11,p12,p13⟩:=hpr
  have hfl:=Ol (f:=tq) hs
  have hsn:=uk (f:=tq) hs
  have next: ∀(σ':ku) (u1:U) (h1:H) (S:Nat->Prop),σ' 1=σ 1->σ' 4=σ 4->σ' 6=σ 6->σ' 8= Jx JT ((i:Int)+1)->jD S u' h' u1 h1->(∀b,S b->h.size+1<=b)->lm (h.size+1) u1 h1 (σ' 7) (hargs++(ls.take i).flatMap tq++tq x)-> ∃y,I y σ' h1/\ls.length - y<ls.length - i:=λσ' u1 h1 S g1 g4 g6 g8 sx hS ho'=>by
   refine⟨i+1,?_,zO⟩
   rw[hI]
   exact⟨by rw[g1,e1],by rw[g4,e4],by rw[g6,e6],g8,hlt,u1,st.trans sx (λb hb hB=>by have:=hS b hB;omega),b0.step sx (λhB=>by have:=hS _ hB;omega),hw.mono sx.ge,by rw[hsn,<-bE];exact ho'⟩
  by_cases hk:x.1=2
  ·have htl:tq x=x.2.1.2.1:=by unfold tq;rw[ah hk];rfl
   rw[htl]at hfl next
   simp(disch:=omega) only[↓reduceIte,go_sem,e1,e8,hlt,p0,p2,ai hk]
   refine lV ho hpv rfl rfl zO (by rw[ay];omega) λa n k u3 h3 ho3 s3=>⟨jO,?_⟩
   have hcs3:=hcs
   obtain⟨pb',po',hpe,hpb,hpu,hpz,hpr⟩:=(hl.mono (st.trans s3 (λb hb hB=>by have:=hne b hB;omega)).ge).row i x hs
   cases hpe
   rw[kP]at hpr
   obtain⟨pv,hpr,-⟩:=hpr
   simp only[jM.enc,lJ,pm,aP,aJ,ax,aC]at hpr hpu hpz
   obtain⟨p0,p1,p2,p3,p4,p5,p6,p7,p8,p9,p10,p11,p12,p13⟩:=hpr
   simp(disch:=omega) only[↓reduceIte,go_sem,e1,e8,hlt,p0,ae (show¬x.1=3 by omega)]
   exact next _ u3 h3 _ zJ zJ zJ zJ s3 hne (by simpa [jI]using ho3)
  by_cases hk3:x.1=3
  ·have htl:tq x=[x.2.2.2.1,x.2.2.2.2.1]:=by unfold tq;rw[af hk,ah hk3]
   rw[htl]at hfl next
   simp only[au,aA]at hfl
   simp(disch:=omega) only[↓reduceIte,go_sem,e1,e8,hlt,p0,p5,p6,p7,p8,p9,p10,p11,p12,ai hk3,ae (show¬x.1=2 by omega)]
   have hsl:=(lm.made (k:=0) (α:=jM) u' h' (aj _) 74 [x.2.2.2.1,x.2.2.2.2.1] (jM.enc x.2.2.2.1++jM.enc x.2.2.2.2.1) rfl (by simp only[au,aA];decide) (λi y hx=>by
     match i with
     |0=>cases hx;rw[ko];rfl
     |1=>cases hx;rw[ko];rfl
     |i+2=>simp at hx)).iZ
   have sp2:=jD.push S0 u' h' (jM.enc x.2.2.2.1++jM.enc x.2.2.2.2.1).toArray 74 (2*4)
   simp only[jM.enc,aP,aJ,au,aA,bJ,Nat.reduceAdd,Nat.reduceMul,lG]at hsl sp2
   refine lV (ho.sZ sp2) hsl rfl rfl zY (by simp only[ay,au,aA];omega) λa n k u3 h3 ho3 s3=>⟨jO,?_⟩
   simp(disch:=omega) only[↓reduceIte,go_sem,e8]
   exact next _ u3 h3 _ zJ zJ zJ zJ ((sp2.mono (λ_ _ h=>h.elim)).trans s3 (λ_ _ h=>h)) hne (by simpa [jI]using ho3)
  ·have htl:tq x=[]:=by unfold tq;rw[af hk,af hk3]
   rw[htl]at next
   simp(disch:=omega) only[↓reduceIte,go_sem,e1,e8,hlt,p0,ae hk3,ae (show¬x.1=2 by omega)]
   exact next _ u' _ S0 zJ zJ zJ zJ (.refl _ _ _) (λ_ h=>h.elim) (by rw[bG];simpa [jI]using ho)
 ·obtain rfl:i=ls.length:=zO
  rw[aK]at ho
  have hlen:(hargs++ls.flatMap tq).length<=4194304:=by rw[ay];omega
  have hub:wJ ((hp,hargs,hoff),ls)=(hargs++ls.flatMap tq).find? (kF vs):=by rw[hvd];rfl
  rw[hub]at hK
  obtain⟨ts,hts⟩:=kg (hargs++ls.flatMap tq)
  rw[<-hts]at ho hlen hK
  obtain⟨ta,tc,hta,-,-⟩:=ho.sl
  have htl:ts.length<=9223372036854775807:=zO
  have hti:=ho.iZ
  rw[hta]at hti
  simp only[↓reduceIte,go_sem,e1,e8]
  obtain⟨J,hJ⟩:=kg (α:=Nat->ku->H->Prop) λj σ h'=>σ 4= .pointer (some ⟨h.size,0,none⟩)/\σ 6=w/\σ 7= .slice ta ts.length tc/\σ 9= Jx JT j/\j<=ts.length/\
    ∃u',jD S0 u h u' h'/\jR u' h' h.size [Jx JT 0,Jx JT 0,str [],Jx JT 0]/\jS u' h' w vs/\jS u' h' (.slice ta ts.length tc) ts/\(∀s∈ts.take j,kF vs s=false)
  refine jE J (λj=>ts.length - j) 0 (by
   rw[hJ]
   exact⟨by simp [jI,e4],by simp [jI,e6],by simp [jI,hta],zJ,aj _,u',st,b0,hw,hti,zP⟩) ?_
  clear hI I e1 e4 e6 e8 hw st b0 hti hta ho hk0
  intro j σ1 h2 hy
  rw[hJ]at hy
  obtain⟨e4,e6,e7,e9,hj,u2,st,b0,hw,ht,hno⟩:=hy
  have hk0:=b0.1
  by_cases hlt:j<ts.length
  ·obtain⟨t,hs⟩:=qP hlt
   obtain⟨tb,to,rfl,htb,htu,htz,htr⟩:=ht.row j t hs
   rw[ko]at htr
   simp only[jM.enc,lG,mQ,ax,aC]at htr htu htz
   obtain⟨t0,t1,t2,t3⟩:=htr
   simp(disch:=omega) only[↓reduceIte,go_sem,e6,e7,e9,hlt,t0,t1,t2,t3]
   refine jC (.inr ⟨rfl,u2,t,_,vs,rfl,hw,λu3 h3 s3=>⟨jO,?_⟩⟩)
   have st3:=st.tZ s3
   have ht3:=ht.mono s3.ge
   have b3:=b0.sZ s3
   have hk3:=b3.1
   cases hb:kF vs t with
   |true=>
    obtain⟨tb',to',hpe,htb,htu,htz,htr⟩:=ht3.row j t hs
    cases hpe
    rw[ko]at htr
    simp only[jM.enc,lG,mQ,ax,aC]at htr htu htz
    obtain⟨t0,t1,t2,t3⟩:=htr
    have b4:=b3.sets (l:=[Jx JT t.1,Jx JT t.2.1,str t.2.2.1,Jx JT t.2.2.2]) rfl
    have s4:=jD.rZ (l:=[Jx JT t.1,Jx JT t.2.1,str t.2.2.1,Jx JT t.2.2.2]) (o:=0) st3 (.inl (ak _)) (by rw[b3.2.2.2.1];exact ak _) (by rw[b3.2.1];exact ak _)
    have e:=Oc hs hno hb
    have hK':=hK u3 _ t true s4 (by rw[ah rfl];exact e)
    simp(disch:=first|omega|simp only[zz];try omega;done) only[↓reduceIte,go_sem,e4,e7,e9,hlt,t0,t1,t2,t3,b3.2.1,b3.2.2.1,b4.at,b4.2.1]
    exact hK'
   |false=>
    simp(disch:=omega) only[↓reduceIte,go_sem,e9]
    refine⟨j+1,?_,zO⟩
    rw[hJ]
    exact⟨by simp [jI,e4],by simp [jI,e6],by simp [jI,e7],zJ,hlt,u3,st3,b3,hw.mono s3.ge,ht3,Mm hno hs hb⟩
  ·obtain rfl:j=ts.length:=zO
   rw[aK]at hno
   have b4:=b0.sets (l:=[Jx JT 0,Jx JT 0,str [],Jx JT 0]) rfl
   have s4:=jD.rZ (l:=[Jx JT 0,Jx JT 0,str [],Jx JT 0]) (o:=0) st (.inl (ak _)) (by rw[b0.2.2.2.1];exact ak _) (by rw[b0.2.1];exact ak _)
   have hK':=hK u2 _ (0,0,[],0) false s4 (by simp only[aD,aW];rw[dF];intro x hx;rw[hno x hx];simp)
   simp(disch:=first|omega|simp only[zz];try omega;done) only[↓reduceIte,go_sem,e4,e7,e9,b0.2.1,b0.2.2.1,b4.at,b4.2.1]
   exact hK'
def RD(vs:List Value)(h:H)(K:Value->H->Prop):Prop:= ∃(u:U) (v w:Value) (c:jY),vs=[v,w]/\jS u h v c.1.2.1/\jS u h w c.2/\(kC c).length<=136/\(∀x∈c.2,FL x)/\
 ∀u' h' (t:jM) (b:Bool),jD S0 u h u' h'->qM [] (kC c)=(if b then some t else none)->K (.tuple #[.agg (jM.enc t).toArray,.bool b]) h'
def aae:lq:=λf vs h K _=>(f=80/\Jo vs h K)\/(f=104/\GV vs h K)
theorem Od:lQ Tryz.prog aae:=lY Ao (pX Cx)
theorem VN(hC:RD vs h K):kN Tryz.prog 78 vs h K KP:=by
 obtain⟨u,v,w,c,rfl,hh,hb,Ub,Uc,hK⟩:=hC
 obtain⟨ha,hc,rfl,q1,q2⟩:=hh.sl
 obtain⟨ba,bc,rfl,q3,q4⟩:=hb.sl
 have hm:=lC
 have hx1':c.1.2.1.length+(c.2.flatMap kQ).length<=136:=by
  have:=Ub;unfold kC at this;rw[ay]at this;exact this
 refine jJ 9665774579 [((some (.c1 (.ldn 4) (.t 4))),(.o1 (.ldn 4) (.t 4))),(none,(.t 5))] Od Tryz.func78 ?_
 simp only[↓reduceIte,go_sem]
 have s1:=jD.qZ S0 u h #[Jx JT 0,Jx JT 0,str [],Jx JT 0] 74
 have B1:=jR.newc (u:=u) (h:=h) [Jx JT 0,Jx JT 0,str [],Jx JT 0] 74
 obtain⟨u1,hu1⟩:=kg (ub u h.size 0)
 obtain⟨h1,hh1⟩:=kg (h.push (.cells #[Jx JT 0,Jx JT 0,str [],Jx JT 0] 74))
 have hz1:h1.size=h.size+1:=by rw[hh1];simp only[kw]
 have B1:jR u1 h1 h.size [Jx JT 0,Jx JT 0,str [],Jx JT 0]:=by rw[hu1,hh1];exact B1
 rw[<-hu1,<-hh1]at s1
 rw[<-hh1]
 have o1:=ui (α:=jM) (h.size+1) u1 h1 zO 74
 have spA:=jD.qZ S0 u1 h1 #[] 74
 have BA:=B1.sZ spA
 have stA:=s1.tZ spA
 rw[hz1]at o1 spA stA BA
 refine lV (k:=h.size+1) o1 (hh.mono stA.ge) rfl rfl zY (by simp only[aA];omega) λa n k u3 h3 ho3 s3=>⟨jO,?_⟩
 have st3:=stA.own s3 λj hj=>by have:=o1.ge hj;omega
 have B3:=BA.step s3 λhj=>by have:=o1.ge hj;omega
 have hz3:=s3.ge.sz
 simp only[kw]at hz3
 simp only[aJ]at ho3
 simp only[↓reduceIte,go_sem,jN]
 refine jC (.inl ⟨rfl,u3,_,c.2,rfl,hb.mono st3.ge,zO,Uc,λu4 h4 w4 s4 hw4=>⟨jO,?_⟩⟩)
 have st4:=st3.tZ s4
 have B4:=B3.sZ s4
 have ho4:=ho3.sZ s4
 have hz4:=s4.ge.sz
 simp only[↓reduceIte,go_sem,jN]
 refine lV ho4 hw4 rfl rfl zO zO λa5 n5 c5 u5 h5 ho5 s5=>⟨jO,?_⟩
 have st5:=st4.own s5 λj hj=>by have:=ho4.ge hj;omega
 have B5:=B4.step s5 λhj=>by have:=ho4.ge hj;omega
 have hz5:=s5.ge.sz
 obtain⟨ta,tc,htv,-,-⟩:=ho5.sl
 have iT:=ho5.iZ
 rw[htv]at iT ⊢
 have hTe:c.1.2.1++c.2.flatMap kQ=kC c:=rfl
 rw[hTe]at iT ⊢
 obtain⟨T,hT⟩:=kg (kC c)
 rw[<-hT]at iT Ub hK ⊢
 simp only[↓reduceIte,go_sem,jN]
 obtain⟨J,hJ⟩:=kg (α:=Nat->ku->H->Prop) λj σ h'=>σ 4= .pointer (some ⟨h.size,0,none⟩)/\σ 6= .slice ta T.length tc/\σ 9= Jx JT j/\j<=T.length/\ ∃u' V,jD S0 u h u' h'/\jR u' h' h.size [Jx JT 0,Jx JT 0,str [],Jx JT 0]/\h.size+1<=h'.size/\lm (h.size+1) u' h' (σ 8) V/\V.length<=16/\qM [] T=qM V (T.drop j)/\jS u' h' (.slice ta T.length tc) T
 refine jE J (λj=>T.length - j) 0 (by rw[hJ];exact⟨zJ,zJ,zJ,aj _,u5,([]:lN),st5,B5,zO,by simp only[jI];exact .nil _ _ _,aj _,rfl,iT⟩) ?_
 clear st5 B5 iT hz5 ho5 s5 st4 B4 ho4 hz4 s4 hw4 ho3 s3 B3 st3 htv
 intro j τ h7 hy
 rw[hJ]at hy
 obtain⟨f4,f6,f9,hj,u7,V,st7,B7,hz7,ho7,hV,heq,iT⟩:=hy
 by_cases hjl:j<T.length
 ·obtain⟨t,ht⟩:=qP hjl
  have hdr:T.drop j=t::T.drop (j+1):=by
   obtain⟨hi',rfl⟩:=aB.1 ht
   exact aN hi'
  rw[hdr,VL]at heq
  obtain⟨qb,qo,hqe,hqb,hqu,hqz,hqr⟩:=iT.row j t ht
  subst hqe
  have hcs:=hqr
  simp only[ko,jM.enc,lG,mQ,ax,aC]at hqr hqu hqz
  obtain⟨t0,t1,t2,t3⟩:=hqr
  obtain⟨sa,sc,hσ8,-,-⟩:=ho7.sl
  rw[hσ8]at ho7
  have b7l:=B7.1
  simp(disch:=omega) only[↓reduceIte,go_sem,f6,f9,hjl,t0,t1,t2,t3,hσ8]
  refine jC (.inr ⟨rfl,u7,t,_,V,rfl,ho7.iZ,λu8 h8 s8=>⟨jO,?_⟩⟩)
  have st8:=st7.tZ s8
  have B8:=B7.sZ s8
  have ho8:=ho7.sZ s8
  have iT8:=iT.mono s8.ge
  have hz8:=s8.ge.sz
  have b8l:=B8.1
  obtain⟨qb',qo',hqe,hqb8,hqu8,hqz8,hqr8⟩:=iT8.row j t ht
  simp only[aQ,Addr.mk.injEq,aC]at hqe
  obtain⟨rfl,rfl⟩:=hqe
  simp only[ko,jM.enc,lG,mQ,ax,aC]at hqr8 hqu8 hqz8
  obtain⟨g0,g1,g2,g3⟩:=hqr8
  cases hlo:kF V t with
  |false=>
   rw[Jl hlo,af zO]at heq
   simp(disch:=omega) only[↓reduceIte,go_sem,f9]
   refine⟨j+1,?_,zO⟩
   rw[hJ]
   exact⟨by simp [jI,f4],by simp [jI,f6],zJ,hjl,u8,V,st8,B8,zO,by simpa [jI,hσ8]using ho8,hV,heq,iT8⟩
  |true=>
   rw[Jk hlo]at heq
   by_cases h16:V.length=16
   ·rw[ah (by rw[ay,aZ];omega)]at heq
    have b9:=B8.sets (l:=[Jx JT t.1,Jx JT t.2.1,str t.2.2.1,Jx JT t.2.2.2]) rfl
    have s9:=jD.rZ (l:=[Jx JT t.1,Jx JT t.2.1,str t.2.2.1,Jx JT t.2.2.2]) (o:=0) st8 (.inl (ak _)) (by rw[B8.2.2.2.1];exact ak _) (by rw[B8.2.1];exact ak _)
    have hK':=hK u8 _ t true s9 heq
    have hvi:(V.length:Int)=16:=zO
    simp(disch:=first|omega|simp only[zz];try omega;done) only[↓reduceIte,go_sem,f4,f6,f9,hσ8,hjl,ai hvi,g0,g1,g2,g3,B8.2.1,B8.2.2.1,b9.at,b9.2.1]
    exact hK'
   ·rw[af (by rw[ay,aZ];omega)]at heq
    have hvi: ¬(V.length:Int)=16:=zO
    have hx:Rep.rep u8 h8 t.2.2.1 [str t.2.2.1]:=by rw[mE]
    simp(disch:=omega) only[↓reduceIte,go_sem,f6,f9,hσ8,hjl,ae hvi,g2]
    refine lM (e':=9) (cs:=[str t.2.2.1]) ho8 hx rfl rfl zO zO λa n c9 u9 h9 ho9 s9=>⟨jO,?_⟩
    have st9:=st8.own s9 λj hj=>by have:=ho8.ge hj;omega
    have B9:=B8.step s9 λhj=>by have:=ho8.ge hj;omega
    have hz9:=s9.ge.sz
    simp(disch:=omega) only[↓reduceIte,go_sem,f9]
    refine⟨j+1,?_,zO⟩
    rw[hJ]
    exact⟨by simp [jI,f4],by simp [jI,f6],zJ,hjl,u9,V++[t.2.2.1],st9,B9,zO,by simpa [jI]using ho9,by rw[ay,aZ];omega,heq,iT8.mono s9.ge⟩
 ·obtain rfl:j=T.length:=zO
  rw[bB]at heq
  have b9:=B7.sets (l:=[Jx JT 0,Jx JT 0,str [],Jx JT 0]) rfl
  have s9:=jD.rZ (l:=[Jx JT 0,Jx JT 0,str [],Jx JT 0]) (o:=0) st7 (.inl (ak _)) (by rw[B7.2.2.2.1];exact ak _) (by rw[B7.2.1];exact ak _)
  have hK':=hK u7 _ (0,0,[],0) false s9 heq
  have b7l:=B7.1
  simp(disch:=first|omega|simp only[zz];try omega;done) only[↓reduceIte,go_sem,f4,f6,f9,B7.2.1,B7.2.2.1,b9.at,b9.2.1]
  exact hK'
end Go.Proofs.Z
namespace Go.Proofs.Z
open Go Go.Ev Edict
variable {vs:List Value} {h:H} {K:Value->H->Prop} {KP:List PanicEntry->H->Prop}
theorem JQ(hC:AC mU vs h K):kN Tryz.prog 28 vs h K KP:=by
 obtain⟨u,v,ls,rfl,hl,hbk,hK⟩:=hC
 obtain⟨la,lc,rfl,q1,q2⟩:=hl.sl
 have hm:=lC
 have hll:=pq ls
 refine jJ 525293 [(none,(.t 2))] (G:=(λ_ _ _ _ _=>False)) (λ_ _ _ _ _ h=>h.elim) Tryz.func28 ?_
 simp only[↓reduceIte,go_sem]
 obtain⟨I,hI⟩:=kg (α:=Nat->ku->H->Prop) λi σ h'=>σ 6= .slice la ls.length lc/\σ 7= Jx JT ls.length/\σ 8= Jx JT i/\i<=ls.length/\ ∃u',jD S0 u h u' h'/\lm h.size u' h' (σ 3) (mU (ls.take i))
 refine jE I (λi=>ls.length - i) 0 (by rw[hI];exact⟨zJ,zJ,zJ,aj _,u,.refl _ _ _,by simp only[jI];exact .nil _ _ _⟩) ?_
 intro i σ h' hy
 rw[hI]at hy
 obtain⟨e6,e7,e8,hi,u',st,ho⟩:=hy
 by_cases hlt:i<ls.length
 ·skip
  obtain⟨x,hs⟩:=qP hlt
  obtain⟨pb,po,rfl,hpb,hpu,hpz,hpr⟩:=(hl.mono st.ge).row i x hs
  have hprs:=hpr
  rw[kP]at hpr
  obtain⟨pv,hpr,hpv⟩:=hpr
  obtain⟨pva,pvc,rfl,r1,r2⟩:=hpv.sl
  have hcs:qV h' pb (po+i*Rep.sz jZ) (Rep.sz jZ)= #[Jx JT x.1,str x.2.1.1,.slice pva x.2.1.2.1.length pvc,Jx JT x.2.1.2.2,Jx JT x.2.2.1,Jx JT x.2.2.2.1.1,Jx JT x.2.2.2.1.2.1,str x.2.2.2.1.2.2.1,Jx JT x.2.2.2.1.2.2.2,Jx JT x.2.2.2.2.1.1,Jx JT x.2.2.2.2.1.2.1,str x.2.2.2.2.1.2.2.1,Jx JT x.2.2.2.2.1.2.2.2,Jx JT x.2.2.2.2.2].toList:=by rw[hpr];rfl
  rw[hcs]at hprs
  simp only[jM.enc,lJ,pm,aP,aJ,ax,aC]at hpr hpu hpz
  obtain⟨p0,p1,p2,p3,p4,p5,p6,p7,p8,p9,p10,p11,p12,p13⟩:=hpr
  have sp:=jD.qZ S0 u' h' #[Jx JT x.1,str x.2.1.1,.slice pva x.2.1.2.1.length pvc,Jx JT x.2.1.2.2,Jx JT x.2.2.1,Jx JT x.2.2.2.1.1,Jx JT x.2.2.2.1.2.1,str x.2.2.2.1.2.2.1,Jx JT x.2.2.2.1.2.2.2,Jx JT x.2.2.2.2.1.1,Jx JT x.2.2.2.2.1.2.1,str x.2.2.2.2.1.2.2.1,Jx JT x.2.2.2.2.1.2.2.2,Jx JT x.2.2.2.2.2] 141
  have hos:=ho.sZ sp
  have hk0:h.size<=h'.size:=st.ge.sz
  have hsn:mU (ls.take (i+1))=mU (ls.take i)++mU [x]:=by unfold mU;rw[aX,hs,bC,eY,bH]
  have hlen:(mU (ls.take i)).length<=ls.length:=by unfold mU;rw[aU];exact aT (bW ..) (by rw[aR];exact fP _ _)
  have hne: ∀b,jL (σ 3) b->h.size<=b:=λb hb=>ho.ge hb
  by_cases hk:x.1=1\/x.1=2
  ·have hr:mU [x]=[x.2.1]:=by unfold mU YC;simp [hk]
   have fin: ∀(r:List St) (Q:ku->H->Prop) (KP':List PanicEntry->H->Prop) (σ':ku) (p:Nat) (h0:H) (u0:U),p=h0.size->lm h.size u0 h0 (σ 3) (mU (ls.take i))->jD S0 u h u0 h0->jS u0 h0 (.slice pva x.2.1.2.1.length pvc) x.2.1.2.1->(∀a n c u3 h3,lm h.size u3 h3 (.slice a n c) (mU (ls.take i)++[x.2.1])->jD S0 u h u3 h3->kT (λ_ _ _ _ _=>False) r Q KP' (nD σ' (some 24) (.slice a n c)) h3)->
     nZ (λ_ _ _ _ _=>False) (.app 51 3 48 [str [],.slice none 0 0,Jx JT 0]) (some 24) [] r Q KP' [σ 3,.slice (some ⟨p,0,none⟩) 1 1] σ' (h0.push (.cells #[str x.2.1.1,.slice pva x.2.1.2.1.length pvc,Jx JT x.2.1.2.2] 51)):=λr Q KP' σ' p h0 u0 hp ho0 s0 i0 hq=>
    yC hp ho0 (x:=x.2.1) (cs:=[str x.2.1.1,.slice pva x.2.1.2.1.length pvc,Jx JT x.2.1.2.2]) (by rw[kE];exact⟨_,rfl,i0⟩) rfl rfl s0.ge.sz zO λa n c u3 h3 ho3 s3=>⟨by simp only[rE],hq a n c u3 h3 ho3 (s0.trans s3 (λb hb hB=>by have:=ho0.ge hB;omega))⟩
   have next: ∀(σ':ku) (u3:U) (h3:H),σ' 6=σ 6->σ' 7=σ 7->σ' 8= Jx JT ((i:Int)+1)->jD S0 u h u3 h3->lm h.size u3 h3 (σ' 3) (mU (ls.take i)++[x.2.1])-> ∃y,I y σ' h3/\ls.length - y<ls.length - i:=λσ' u3 h3 g6 g7 g8 sx ho'=>by
    refine⟨i+1,?_,zO⟩
    rw[hI]
    exact⟨by rw[g6,e6],by rw[g7,e7],g8,hlt,u3,sx,by rw[hsn,hr];exact ho'⟩
   rcases hk with hk|hk
   ·simp(disch:=omega) only[↓reduceIte,go_sem,e6,e7,e8,hlt,p0,p1,p2,p3,p4,p5,p6,p7,p8,p9,p10,p11,p12,p13,ai hk]
    refine fin _ _ _ _ (h'.size+1) _ _ (by simp only[kw]) hos (st.tZ sp) (hpv.mono sp.ge) λa n c u3 h3 ho3 st3=> ?_
    simp(disch:=omega) only[↓reduceIte,go_sem,e8]
    exact next _ u3 h3 zJ zJ zJ st3 (by simpa [jI]using ho3)
   ·simp(disch:=omega) only[↓reduceIte,go_sem,e6,e7,e8,hlt,p0,p1,p2,p3,p4,p5,p6,p7,p8,p9,p10,p11,p12,p13,ai hk,ae (show¬x.1=1 by omega)]
    refine fin _ _ _ _ (h'.size+1) _ _ (by simp only[kw]) hos (st.tZ sp) (hpv.mono sp.ge) λa n c u3 h3 ho3 st3=> ?_
    simp(disch:=omega) only[↓reduceIte,go_sem,e8]
    exact next _ u3 h3 zJ zJ zJ st3 (by simpa [jI]using ho3)
  ·have hr:mU [x]=[]:=by unfold mU YC;simp [hk]
   simp(disch:=omega) only[↓reduceIte,go_sem,e6,e7,e8,hlt,p0,p1,p2,p3,p4,p5,p6,p7,p8,p9,p10,p11,p12,p13,ae (show¬x.1=1 by omega),ae (show¬x.1=2 by omega)]
   refine⟨i+1,?_,zO⟩
   rw[hI]
   exact⟨by simp [jI,e6],by simp [jI,e7],zJ,hlt,_,st.tZ sp,by rw[hsn,hr,bG];simpa [jI]using hos⟩
 ·obtain rfl:i=ls.length:=zO
  rw[aK]at ho
  simp only[↓reduceIte,go_sem,e7,e8]
  exact hK _ _ _ st ho.iZ
theorem tC{c:jY}(hb:Rep.bulk c<=1048576):bulkL c.2<=1048576/\c.1.2.1.length<=1048576/\(c.2.flatMap kQ).length<=1048576:=by
 have h2:=BG JG c.2
 have h3:Rep.bulk c=(c.1.1.length+1+(bulkL c.1.2.1+1))+bulkL c.2:=rfl
 have h4:=pq c.1.2.1
 omega
def YI{α:Type} [Rep α](f:jY->List α)(vs:List Value)(h:H)(K:Value->H->Prop):Prop:= ∃(u:U) (c:jY) (l:List Value),vs=[.agg l.toArray]/\Rep.rep u h c l/\Rep.bulk c<=1048576/\ ∀u' h' w,jD S0 u h u' h'->jS u' h' w (f c)->K w h'
theorem SF(hC:YI kC vs h K):kN Tryz.prog 30 vs h K KP:=by
 obtain⟨u,c,l,rfl,hr,hbk,hK⟩:=hC
 obtain⟨hb1,hb2,hb3⟩:=tC hbk
 rw[lH]at hr
 obtain⟨va,vb,rfl,hh,hb⟩:=hr
 obtain⟨ha,hc,rfl,-,-⟩:=hh.sl
 obtain⟨ba,bc,rfl,-,-⟩:=hb.sl
 have hm:=lC
 refine jJ 7 [(none,(.t 2))] DY Tryz.func30 ?_
 simp(disch:=first|omega|simp only[zz];try omega;done) only[↓reduceIte,go_sem]
 have sp:jD S0 u h _ _:=jD.qZ S0 u h #[str c.1.1,.slice ha c.1.2.1.length hc,Jx JT c.1.2.2,.slice ba c.2.length bc] 54
 have o1:=ui (α:=jM) (h.size+1) (ub u h.size 0) (h.push (.cells #[str c.1.1,.slice ha c.1.2.1.length hc,Jx JT c.1.2.2,.slice ba c.2.length bc] 54)) zY 74
 have sp2:=jD.qZ S0 (ub u h.size 0) (h.push (.cells #[str c.1.1,.slice ha c.1.2.1.length hc,Jx JT c.1.2.2,.slice ba c.2.length bc] 54)) #[] 74
 have B1:jR (ub u h.size 0) (h.push (.cells #[str c.1.1,.slice ha c.1.2.1.length hc,Jx JT c.1.2.2,.slice ba c.2.length bc] 54)) h.size [str c.1.1,.slice ha c.1.2.1.length hc,Jx JT c.1.2.2,.slice ba c.2.length bc]:=(jR.mk zY zE zE (by repeat (first|(refine lU ?_;simp only[];done)|apply kG)) zE)
 have B2:=B1.sZ sp2
 simp only[kw]at o1 sp2 B2
 have st2:=sp.tZ sp2
 refine lV (k:=h.size+1) o1 (hh.mono st2.ge) rfl rfl zY (by simp only[aA];omega) λa n k u3 h3 ho3 s3=> ?_
 have B3:=B2.step s3 (by rintro ⟨o,n',c',e⟩;simp only[Value.slice.injEq,aQ,Addr.mk.injEq]at e;omega)
 have s3':jD S0 u h u3 h3:=st2.trans s3 (λb hb hB=>by have:=o1.ge hB;omega)
 refine⟨by simp(disch:=first|omega|simp only[zz];try omega;done) only[↓reduceIte,go_sem,B2.at,B3.at,B3.2.1],?_⟩
 simp only[↓reduceIte,go_sem]
 refine jC ⟨rfl,u3,_,c.2,rfl,hb.mono s3'.ge,hb1,λu4 h4 w s4 hw=>⟨jO,?_⟩⟩
 have ho4:=ho3.sZ s4
 simp only[↓reduceIte,go_sem,jN]
 refine lV ho4 hw rfl rfl (aT (Nat.succ_le_of_lt B3.1) s4.ge.sz) (by simp only[aJ];omega) λa5 n5 k5 u5 h5 ho5 s5=>⟨jO,?_⟩
 have hlt3: ∀b,jL (.slice a n k) b->h.size+1<=b:=λb hb=>ho4.ge hb
 have s5':jD S0 u h u5 h5:=(s3'.tZ s4).trans s5 (λb hb hB=>by have:=ho4.ge hB;omega)
 simp only[aJ]at ho5
 simp only[↓reduceIte,go_sem,jN]
 exact hK _ _ _ s5' ho5.iZ
end Go.Proofs.Z
namespace Edict
theorem aaD{ps:List kK}{s:List UInt8}(h:oQ ps s=none)(n:Int)(t:List UInt8):oQ (ps++[(s,n)]) t=if t=s then some n else oQ ps t:=by
 unfold oQ at h ⊢
 simp only[jd]at h
 rw[iE]
 by_cases e:t=s
 ·subst e
  rw[ah rfl,h];simp
 ·rw[af e]
  cases hf:ps.find? (λp=>decide (p.1=t))with
  |some x=>simp
  |none=>simpa using λq=>e q.symm
theorem xh(ps:List kK)(a:kZ)(l:List kZ):kv ps (a::l)=(match oQ ps a.1 with
  |some n=>if n=a.2.1.length then kv ps l else(ps,30,a.2.2)
  |none=>if 128<=ps.length then(ps,31,a.2.2)else kv (ps++[(a.1,(a.2.1.length:Int))]) l):=rfl
end Edict
namespace Go.Ev
open Go
theorem adR{h:H}{b:Nat}{v0 v1 v2 v3:Value}(hz:lS h b=4):lS (jW h b 0 [v0,v1,v2,v3]) b=4/\Go.Ev.hv (jW h b 0 [v0,v1,v2,v3]) b 0=v0/\Go.Ev.hv (jW h b 0 [v0,v1,v2,v3]) b 1=v1/\Go.Ev.hv (jW h b 0 [v0,v1,v2,v3]) b 2=v2/\Go.Ev.hv (jW h b 0 [v0,v1,v2,v3]) b 3=v3:=by
 have hl:0+[v0,v1,v2,v3].length<=lS h b:=by rw[hz];simp
 refine⟨by rw[jP,hz],?_,?_,?_,?_⟩<;>(rw[ut _ _ _ _ _ hl];simp)
end Go.Ev
namespace Go.Proofs.Z
open Go Go.Ev Edict
variable {vs:List Value} {h:H} {K:Value->H->Prop} {KP:List PanicEntry->H->Prop}
def Ow(vs:List Value)(h:H)(K:Value->H->Prop):Prop:= ∃(u:U) (b:Nat) (v:Value) (ps:List kK) (al:List kZ),vs=[.map (some b),v]/\oI h b (oQ ps) ps.length/\ps.length<=128/\jS u h v al/\
 ∀u' h',jD (λi=>i=b) u h u' h'->oI h' b (oQ (kv ps al).1) (kv ps al).1.length->(kv ps al).1.length<=128->K (.tuple #[Jx JT (kv ps al).2.1,Jx JT (kv ps al).2.2]) h'
theorem Wq(hC:Ow vs h K):kN Tryz.prog 64 vs h K KP:=by
 obtain⟨u,b,v,ps,al,rfl,hmap,hps,hl,hK⟩:=hC
 obtain⟨la,lc,rfl,q1,q2⟩:=hl.sl
 have hm:=lC
 refine jJ 17188274099 [(none,(.t 4)),(none,(.t 5))] (G:=(λ_ _ _ _ _=>False)) (λ_ _ _ _ _ h=>h.elim) Tryz.func64 ?_
 simp only[↓reduceIte,go_sem]
 obtain⟨I,hI⟩:=kg (α:=Nat->ku->H->Prop) λi σ h'=>σ 0= .map (some b)/\σ 10= .slice la al.length lc/\σ 11= Jx JT al.length/\σ 12= Jx JT i/\i<=al.length/\
  ∃(u':U) (pi:List kK),jD (λi=>i=b) u h u' h'/\oI h' b (oQ pi) pi.length/\pi.length<=128/\kv ps al=kv pi (al.drop i)
 refine jE I (λi=>al.length - i) 0 (by
  rw[hI]
  exact⟨zJ,zJ,zJ,zJ,aj _,u,ps,.refl _ _ _,hmap,hps,rfl⟩) ?_
 intro i σ h' hy
 rw[hI]at hy
 obtain⟨e0,e10,e11,e12,hi,u',pi,st,hmb,hpi,heq⟩:=hy
 by_cases hlt:i<al.length
 ·obtain⟨x,hs⟩:=qP hlt
  have hdr:al.drop i=x::al.drop (i+1):=by
   obtain⟨hi',rfl⟩:=aB.1 hs
   exact aN hi'
  rw[hdr]at heq
  obtain⟨pb,po,rfl,hpb,hpu,hpz,hpr⟩:=(hl.mono st.ge).row i x hs
  rw[kE]at hpr
  obtain⟨pv,hpr,hpv⟩:=hpr
  obtain⟨pva,pvc,rfl,r1,r2⟩:=hpv.sl
  simp only[qK,uq,ax,aC]at hpr hpu hpz
  obtain⟨p0,p1,p2⟩:=hpr
  have sp:=jD.qZ S0 u' h' #[str x.1,.slice pva x.2.1.length pvc,Jx JT x.2.2] 51
  have X:jR (ub u' h'.size 0) (h'.push (.cells #[str x.1,.slice pva x.2.1.length pvc,Jx JT x.2.2] 51)) h'.size [str x.1,.slice pva x.2.1.length pvc,Jx JT x.2.2]:=(jR.mk zY zE zE (by repeat (first|(refine lU ?_;simp only[];done)|apply kG)) zE)
  have hmp:=hmb.step sp (λh=>h)
  have hbl:=hmb.lt
  have next: ∀(σ':ku) (u3:U) (h3:H) (pj:List kK),σ' 0=σ 0->σ' 10=σ 10->σ' 11=σ 11->σ' 12= Jx JT ((i:Int)+1)->jD (λi=>i=b) u h u3 h3->oI h3 b (oQ pj) pj.length->pj.length<=128->kv ps al=kv pj (al.drop (i+1))->
    ∃y,I y σ' h3/\al.length - y<al.length - i:=λσ' u3 h3 pj g0 g10 g11 g12 s3 m3 l3 q3=>by
   refine⟨i+1,?_,zO⟩
   rw[hI]
   exact⟨by rw[g0,e0],by rw[g10,e10],by rw[g11,e11],g12,hlt,u3,pj,s3,m3,l3,q3⟩
  simp(disch:=omega) only[↓reduceIte,go_sem,e0,e10,e11,e12,hlt,p0,p1,p2]
  refine oz hmp ⟨jO,?_⟩
  rw[xh]at heq
  cases ha:oQ pi x.1 with
  |some n=>
   rw[ha]at heq
   simp only at heq
   simp only[mr,bv,dM,bZ]
   by_cases hn:n=x.2.1.length
   ·rw[ah hn]at heq
    simp(disch:=omega) only[↓reduceIte,go_sem,e0,ai hn]
    refine xG (ub u' h'.size 0) hmp λh2 s2 m2=>⟨jO,?_⟩
    have em:zt (oQ pi) x.1 (x.2.1.length:Int)=oQ pi:=by
     funext s
     unfold zt
     by_cases e:s=x.1
     ·rw[ah e,e,ha,hn]
     ·rw[af e]
    rw[ha,em]at m2
    simp(disch:=omega) only[↓reduceIte,go_sem,e12]
    exact next _ _ h2 pi zJ zJ zJ zJ ((st.tZ sp).trans s2 (λ_ _ h=>h)) m2 hpi heq
   ·rw[af hn]at heq
    simp(disch:=omega) only[↓reduceIte,go_sem,ae hn]
    have:=hK _ _ (st.tZ sp) (by rw[heq];exact hmp) (by rw[heq];exact hpi)
    rw[heq]at this
    exact this
  |none=>
   rw[ha]at heq
   simp only at heq
   simp only[mr,bv,cZ,dR]
   by_cases hn:128<=pi.length
   ·rw[ah hn]at heq
    simp(disch:=omega) only[↓reduceIte,go_sem,e0]
    refine AY hmp ⟨jO,?_⟩
    simp(disch:=omega) only[↓reduceIte,go_sem,ai (show(128:Int)<=pi.length by omega)]
    have:=hK _ _ (st.tZ sp) (by rw[heq];exact hmp) (by rw[heq];exact hpi)
    rw[heq]at this
    exact this
   ·rw[af hn]at heq
    simp(disch:=omega) only[↓reduceIte,go_sem,e0]
    refine AY hmp ⟨jO,?_⟩
    simp(disch:=omega) only[↓reduceIte,go_sem,e0,ae (show¬(128:Int)<=pi.length by omega)]
    refine xG (ub u' h'.size 0) hmp λh2 s2 m2=>⟨jO,?_⟩
    have em:zt (oQ pi) x.1 (x.2.1.length:Int)=oQ (pi++[(x.1,(x.2.1.length:Int))]):=by
     funext s
     rw[aaD ha]
     rfl
    rw[ha,em]at m2
    simp(disch:=omega) only[↓reduceIte,go_sem,e12]
    exact next _ _ h2 (pi++[(x.1,(x.2.1.length:Int))]) zJ zJ zJ zJ ((st.tZ sp).trans s2 (λ_ _ h=>h)) (by simpa using m2) (by simp;omega) heq
 ·obtain rfl:i=al.length:=zO
  rw[bB]at heq
  have heq:kv ps al=(pi,0,0):=heq
  simp only[↓reduceIte,go_sem,e11,e12]
  have:=hK _ _ st (by rw[heq];exact hmb) (by rw[heq];exact hpi)
  rw[heq]at this
  exact this
def JP:jM:=(0,0,[],0)
def YH(vs:List Value)(h:H)(K:Value->H->Prop):Prop:= ∃(u:U) (v:Value) (l:List jM),vs=[v]/\jS u h v l/\l.length<=4194304/\
 ∀u' h',jD S0 u h u' h'->K (.tuple #[.agg (jM.enc ((qM [] l).getD JP)).toArray,.bool (qM [] l).isSome]) h'
theorem Ws(hC:YH vs h K):kN Tryz.prog 65 vs h K KP:=by
 obtain⟨u,v,l,rfl,hl,hlen,hK⟩:=hC
 obtain⟨la,lc,rfl,q1,q2⟩:=hl.sl
 have hm:=lC
 refine jJ 73014999741 [((some (.c1 (.ldn 4) (.t 2))),(.o1 (.ldn 4) (.t 2))),(none,(.t 3))] AF Tryz.func65 ?_
 simp only[go_sem]
 have sA:jD S0 u h (ub u h.size 0) (h.push (.cells #[Jx JT 0,Jx JT 0,str [],Jx JT 0] 74)):=jD.qZ S0 u h _ _
 have XA:jR (ub u h.size 0) (h.push (.cells #[Jx JT 0,Jx JT 0,str [],Jx JT 0] 74)) h.size [Jx JT 0,Jx JT 0,str [],Jx JT 0]:=(jR.mk zY zE zE (by repeat (first|(refine lU ?_;simp only[];done)|apply kG)) zE)
 refine xF (ub u h.size 0) λu0 h0 s0 hm0=>⟨jO,?_⟩
 have X0:=XA.sZ s0
 have st0:=sA.tZ s0
 simp only[↓reduceIte,go_sem,jN]
 rw[kw]at hm0
 obtain⟨I,hI⟩:=kg (α:=Nat->ku->H->Prop) λi σ h'=>σ 2= .pointer (some ⟨h.size,0,none⟩)/\σ 4= .map (some (h.size+1))/\σ 11= .slice la l.length lc/\σ 12= Jx JT l.length/\σ 13= Jx JT i/\i<=l.length/\
  ∃(u':U) (vi:lN) (m:List UInt8->Option Int) (n:Nat),σ 5= Jx JT vi.length/\jD S0 u h u' h'/\jR u' h' h.size [Jx JT 0,Jx JT 0,str [],Jx JT 0]/\oI h' (h.size+1) m n/\n<=vi.length/\(∀s,(m s).isSome=true↔s∈vi)/\vi.length<=16/\qM [] l=qM vi (l.drop i)
 refine jE I (λi=>l.length - i) 0 (by
  rw[hI]
  exact⟨zJ,zJ,zJ,zJ,zJ,aj _,u0,[],_,0,zJ,st0,X0,hm0,aj _,λs=>zP,aj _,rfl⟩) ?_
 intro i σ h' hy
 rw[hI]at hy
 obtain⟨e2,e4,e11,e12,e13,hi,u',vi,m,n,e5,st,X,hmb,hn,hms,hv16,heq⟩:=hy
 by_cases hlt:i<l.length
 ·obtain⟨t,hs⟩:=qP hlt
  have hdr:l.drop i=t::l.drop (i+1):=by
   obtain⟨hi',rfl⟩:=aB.1 hs
   exact aN hi'
  rw[hdr]at heq
  obtain⟨tb,to,rfl,htb,htu,htz,htr⟩:=(hl.mono st.ge).row i t hs
  rw[ko]at htr
  simp only[jM.enc,lG,mQ,ax,aC]at htr htu htz
  obtain⟨t0,t1,t2,t3⟩:=htr
  have sp:=jD.qZ S0 u' h' #[Jx JT t.1,Jx JT t.2.1,str t.2.2.1,Jx JT t.2.2.2] 74
  have Y:jR (ub u' h'.size 0) (h'.push (.cells #[Jx JT t.1,Jx JT t.2.1,str t.2.2.1,Jx JT t.2.2.2] 74)) h'.size [Jx JT t.1,Jx JT t.2.1,str t.2.2.1,Jx JT t.2.2.2]:=(jR.mk zY zE zE (by repeat (first|(refine lU ?_;simp only[];done)|apply kG)) zE)
  have hmp:=hmb.step sp (λh=>h)
  have Xp:=X.sZ sp
  have hbl:=hmb.lt
  have hcc:qM vi (t::l.drop (i+1))=if 16<(kV vi t).length then some t else qM (kV vi t) (l.drop (i+1)):=rfl
  rw[hcc]at heq
  have next: ∀(σ':ku) (u3:U) (h3:H) (m3:List UInt8->Option Int) (n3:Nat),σ' 2=σ 2->σ' 4=σ 4->σ' 11=σ 11->σ' 12=σ 12->σ' 13= Jx JT ((i:Int)+1)->σ' 5= Jx JT (kV vi t).length->jD S0 u h u3 h3->jR u3 h3 h.size [Jx JT 0,Jx JT 0,str [],Jx JT 0]->oI h3 (h.size+1) m3 n3->n3<=(kV vi t).length->
    (∀s,(m3 s).isSome=true↔s∈kV vi t)-> ¬16<(kV vi t).length-> ∃y,I y σ' h3/\l.length - y<l.length - i:=λσ' u3 h3 m3 n3 g2 g4 g11 g12 g13 g5 s3 X3 M3 hn3 hs3 h16=>by
   refine⟨i+1,?_,zO⟩
   rw[hI]
   exact⟨by rw[g2,e2],by rw[g4,e4],by rw[g11,e11],by rw[g12,e12],g13,hlt,u3,kV vi t,m3,n3,g5,s3,X3,M3,hn3,hs3,zO,by rw[heq,af h16]⟩
  by_cases hk:t.1=4
  ·simp(disch:=omega) only[↓reduceIte,go_sem,e4,e11,e12,e13,hlt,t0,t1,t2,t3,ai hk]
   refine jC ⟨rfl,ub u' h'.size 0,h.size+1,m,n,t.2.2.1,rfl,hmp,zO,λw hw=>⟨jO,?_⟩,λhw h2 s2 hm2=>⟨jO,?_⟩⟩
   ·have hin:t.2.2.1∈vi:=(hms _).1 (by rw[hw];rfl)
    by_cases h95:t.2.2.1=[95]
    ·have hvt:kV vi t=vi++[t.2.2.1]:=by unfold kV;rw[ah ⟨hk,.inl h95⟩]
     have hvl:(kV vi t).length=vi.length+1:=by rw[hvt];simp
     by_cases h16:16<=vi.length
     ·simp(disch:=first|omega|simp only[zz];try omega;done) only[↓reduceIte,go_sem,e2,e5,Y.at,Y.2.1,ai h95,ai (show(16:Int)<vi.length+1 by omega),Xp.2.1,Xp.2.2.1]
      obtain⟨z0,z1,z2,z3,z4⟩:=adR (v0:= Jx JT t.1) (v1:= Jx JT t.2.1) (v2:=str t.2.2.1) (v3:= Jx JT t.2.2.2) X.2.1
      have hXl:h.size<(jW h' h.size 0 [Jx JT t.1,Jx JT t.2.1,str t.2.2.1,Jx JT t.2.2.2]).size:=by rw[lI];exact X.1
      rw[zK hXl,uO hXl,uO hXl,uO hXl,uO hXl,z0,z1,z2,z3,z4]
      refine⟨ak _,?_⟩
      rw[ah zO]at heq
      have sw:=jD.rZ (b:=h.size) (o:=0) (l:=[Jx JT t.1,Jx JT t.2.1,str t.2.2.1,Jx JT t.2.2.2]) st (.inl (ak _)) (by rw[X.2.2.2.1];exact ak _) (by rw[X.2.1];simp)
      have:=hK _ _ (sw.tZ (jD.qZ S0 _ _ #[Jx JT t.1,Jx JT t.2.1,str t.2.2.1,Jx JT t.2.2.2] 74))
      rw[heq]at this
      exact this
     ·simp(disch:=first|omega|simp only[zz];try omega;done) only[↓reduceIte,go_sem,e5,e13,Y.at,Y.2.1,ai h95,ae (show¬(16:Int)<vi.length+1 by omega)]
      exact next _ _ _ m n zJ zJ zJ zJ zJ (by simp [jI,hvl]) (st.tZ sp) Xp hmp zO (λs=>by rw[hms,hvt,aV,aY];exact⟨.inl,λh=>h.elim id (λh=>h▸hin)⟩) zO
    ·have hvt:kV vi t=vi:=by
      unfold kV;rw[af];rintro ⟨-,h|h⟩
      ·exact h95 h
      ·exact h hin
     simp(disch:=first|omega|simp only[zz];try omega;done) only[↓reduceIte,go_sem,e5,e13,Y.at,Y.2.1,ae h95,ae (show¬(16:Int)<vi.length by omega)]
     exact next _ _ _ m n zJ zJ zJ zJ zJ (by simp [jI,e5,hvt]) (st.tZ sp) Xp hmp (by rw[hvt];exact hn) (by rw[hvt];exact hms) (by rw[hvt];omega)
   ·have hin:t.2.2.1 ∉ vi:=λh=>by have:=(hms _).2 h;rw[hw]at this;cases this
    have hvt:kV vi t=vi++[t.2.2.1]:=by unfold kV;rw[ah ⟨hk,.inr hin⟩]
    have hvl:(kV vi t).length=vi.length+1:=by rw[hvt];simp
    have Y2:=Y.step s2 zO
    have X2:=Xp.step s2 zO
    have st2:jD S0 u h _ h2:=(st.tZ sp).trans s2 (λj hj e=>by have e:j=h.size+1:=e;omega)
    by_cases h16:16<=vi.length
    ·simp(disch:=first|omega|simp only[zz];try omega;done) only[↓reduceIte,go_sem,e2,e5,Y2.at,Y2.2.1,ai (show(16:Int)<vi.length+1 by omega),X2.2.1,X2.2.2.1]
     obtain⟨z0,z1,z2,z3,z4⟩:=adR (v0:= Jx JT t.1) (v1:= Jx JT t.2.1) (v2:=str t.2.2.1) (v3:= Jx JT t.2.2.2) X2.2.1
     rw[z0,z1,z2,z3,z4]
     refine⟨ak _,?_⟩
     rw[ah zO]at heq
     have:=hK _ _ (jD.rZ (b:=h.size) (o:=0) (l:=[Jx JT t.1,Jx JT t.2.1,str t.2.2.1,Jx JT t.2.2.2]) st2 (.inl (ak _)) (by rw[X2.2.2.2.1];exact ak _) (by rw[X2.2.1];simp))
     rw[heq]at this
     exact this
    ·simp(disch:=first|omega|simp only[zz];try omega;done) only[↓reduceIte,go_sem,e5,e13,Y2.at,ae (show¬(16:Int)<vi.length+1 by omega)]
     exact next _ _ h2 (zt m t.2.2.1 n) (n+1) zJ zJ zJ zJ zJ (by simp [jI,hvl]) st2 X2 hm2 zO (λs=>by
      rw[hvt,aV,aY]
      unfold zt
      by_cases e:s=t.2.2.1
      ·rw[ah e];exact⟨λ_=> .inr e,λ_=>rfl⟩
      ·rw[af e,hms];exact⟨.inl,λh=>h.elim id (λh=>absurd h e)⟩) zO
  ·have hvt:kV vi t=vi:=by unfold kV;rw[af (λh=>hk h.1)]
   simp(disch:=omega) only[↓reduceIte,go_sem,e11,e12,e13,hlt,t0,t1,t2,t3,ae hk]
   exact next _ _ _ m n zJ zJ zJ zJ zJ (by rw[hvt];simp [jI,e5]) (st.tZ sp) Xp hmp (by rw[hvt];exact hn) (by rw[hvt];exact hms) (by rw[hvt];omega)
 ·obtain rfl:i=l.length:=zO
  rw[bB]at heq
  have heq:qM [] l=none:=heq
  simp only[↓reduceIte,go_sem,e2,e12,e13,X.2.1,X.2.2.1]
  obtain⟨z0,z1,z2,z3,z4⟩:=adR (v0:= Jx JT 0) (v1:= Jx JT 0) (v2:=str []) (v3:= Jx JT 0) X.2.1
  rw[z0,z1,z2,z3,z4]
  refine⟨ak _,?_⟩
  have:=hK _ _ (jD.rZ (b:=h.size) (o:=0) (l:=[Jx JT 0,Jx JT 0,str [],Jx JT 0]) st (.inl (ak _)) (by rw[X.2.2.2.1];exact ak _) (by rw[X.2.1];simp))
  rw[heq]at this
  exact this
end Go.Proofs.Z
namespace Go.Proofs.Z
open Go Go.Ev Edict
variable {vs:List Value} {h:H} {K:Value->H->Prop} {KP:List PanicEntry->H->Prop}
def yT{α:Type} [Rep α](g:FuncId)(f:α->Int)(vs:List Value)(h:H)(K:Value->H->Prop):Prop:= ∃(u:U) (v:Value) (l:List α),vs=[v,.func (.func g) #[] #[]]/\jS u h v l/\(∀x∈l,Rep.wf x)/\ ∀u' h',jD S0 u h u' h'->K (Jx JT (ng f l)) h'
def WC:lq:=λf vs h K _=>(f=149/\lL (vI mY) vs h K)
theorem KX:lQ Tryz.prog WC:=pX KT
theorem Ga(hC:yT 149 mY vs h K):kN Tryz.prog 148 vs h K KP:=by
 obtain⟨u,v,l,rfl,hl,hw,hK⟩:=hC
 obtain⟨la,lc,rfl,q1,q2⟩:=hl.sl
 have hm:=Gt
 refine jJ 266195 [(none,(.t 4))] KX Tryz.func148 ?_
 simp only[↓reduceIte,go_sem]
 obtain⟨I,hI⟩:=kg (α:=Nat->ku->H->Prop) λi σ h'=>σ 1= .func (.func 149) #[] #[]/\σ 8= .slice la l.length lc/\σ 9= Jx JT l.length/\σ 10= Jx JT i/\i<=l.length/\ng mY l=ng mY (l.drop i)/\ ∃u',jD S0 u h u' h'
 refine jE I (λi=>l.length - i) 0 (by rw[hI];exact⟨zJ,zJ,zJ,zJ,aj _,rfl,u,.refl _ _ _⟩) ?_
 intro i σ h' hy
 rw[hI]at hy
 obtain⟨e1,e8,e9,e10,hi,hf,u',st⟩:=hy
 by_cases hlt:i<l.length
 ·obtain⟨x,hs⟩:=qP hlt
  obtain⟨pb,po,rfl,hpb,hpu,hpz,hpr⟩:=(hl.mono st.ge).row i x hs
  rw[ko]at hpr
  simp only[jM.enc,lG,mQ,ax,aC]at hpr hpu hpz
  obtain⟨p0,p1,p2,p3⟩:=hpr
  simp(disch:=omega) only[↓reduceIte,go_sem,e1,e8,e9,e10,hlt,p0,p1,p2,p3]
  refine vS ⟨rfl,_,x,_,rfl,(show Rep.rep (ub u' h'.size 0) _ x _ by rw[ko];rfl),hw x (aF hs),λu2 h2 s2=>⟨jO,?_⟩⟩
  have s12:=jD.tZ (S:=S0) (u:=u') (h:=h') zT s2
  rw[rY hs]at hf
  simp only[vI]
  by_cases h0:mY x=0
  ·rw[ah h0]at hf
   simp(disch:=omega) only[↓reduceIte,go_sem,e10,h0]
   refine⟨i+1,?_,zO⟩
   rw[hI]
   exact⟨by simp [jI,e1],by simp [jI,e8],by simp [jI,e9],zJ,hlt,hf,u2,st.tZ s12⟩
  ·rw[af h0]at hf
   rw[hf]at hK
   simp only[↓reduceIte,go_sem,ae h0]
   exact hK _ _ (st.tZ s12)
 ·obtain rfl:i=l.length:=zO
  rw[bB]at hf
  rw[hf]at hK
  simp only[↓reduceIte,go_sem,e9,e10]
  exact hK _ _ st
def OG:lq:=λf vs h K _=>(f=147/\BZ qY vs h K)\/(f=148/\yT 149 mY vs h K)
theorem Gw:lQ Tryz.prog OG:=lY Ec (pX Ga)
theorem xC(hC:lL (vI nC) vs h K):kN Tryz.prog 125 vs h K KP:=by
 obtain⟨u,a,l,rfl,hr,⟨wn,⟨-,wa⟩,-⟩,hK⟩:=hC
 have wn':a.1.length<=9223372036854775807:=wn
 rw[kE]at hr
 obtain⟨v,rfl,hv⟩:=hr
 obtain⟨va,vc,rfl,q1,q2⟩:=hv.sl
 have hm:=Gt
 simp only[vI,nC]at hK
 refine jJ 271 [(none,(.t 2))] Gw Tryz.func125 ?_
 simp(disch:=omega) only[↓reduceIte,go_sem]
 refine jC (.inl ⟨rfl,ub u h.size 0,a.1,rfl,wn',λu2 h2 s2=>⟨jO,?_⟩⟩)
 have s02:=jD.tZ (S:=S0) (u:=u) (h:=h) zT s2
 have B0:jR u2 h2 h.size [str a.1,.slice va a.2.1.length vc,Jx JT a.2.2]:=jR.sZ (jR.mk zY zE zE (by repeat (first|(refine lU ?_;simp only[];done)|apply kG)) zE) s2
 cases hn:qY a.1 with
 |false=>
  rw[hn]at hK
  simp only[↓reduceIte,go_sem]
  exact hK _ _ s02
 |true=>
  rw[hn]at hK
  simp only[bv]at hK
  by_cases h8:8<a.2.1.length
  ·rw[ah h8]at hK
   simp(disch:=first|omega|simp only[zz];try omega;done) only[↓reduceIte,go_sem,B0.at,B0.2.1,ai (show(8:Int)<(a.2.1.length:Int) by omega)]
   exact hK _ _ s02
  ·rw[af h8]at hK
   simp(disch:=first|omega|simp only[zz];try omega;done) only[↓reduceIte,go_sem,B0.at,B0.2.1,ae (show¬(8:Int)<(a.2.1.length:Int) by omega)]
   refine jC (.inr ⟨rfl,u2,_,a.2.1,rfl,hv.mono s02.ge,wa,λu3 h3 s3=>⟨jO,?_⟩⟩)
   simp only[↓reduceIte,go_sem,jN]
   exact hK _ _ (s02.tZ s3)
def adX:lq:=λf vs h K _=>(f=152/\BZ qY vs h K)\/(f=153/\lL (vI mY) vs h K)
theorem Te:lQ Tryz.prog adX:=lY FT (pX EU)
theorem Fa(hC:lL (vI nC) vs h K):kN Tryz.prog 129 vs h K KP:=by
 obtain⟨u,a,l,rfl,hr,⟨wn,⟨-,wa⟩,-⟩,hK⟩:=hC
 have wn':a.1.length<=9223372036854775807:=wn
 rw[kE]at hr
 obtain⟨v,rfl,hv⟩:=hr
 obtain⟨va,vc,rfl,q1,q2⟩:=hv.sl
 have hm:=Gt
 simp only[vI,nC]at hK
 refine jJ 134353183 [(none,(.t 2))] Te Tryz.func129 ?_
 simp(disch:=omega) only[↓reduceIte,go_sem]
 refine jC (.inl ⟨rfl,ub u h.size 0,a.1,rfl,wn',λu2 h2 s2=>⟨jO,?_⟩⟩)
 have s02:=jD.tZ (S:=S0) (u:=u) (h:=h) zT s2
 have B0:jR u2 h2 h.size [str a.1,.slice va a.2.1.length vc,Jx JT a.2.2]:=jR.sZ (jR.mk zY zE zE (by repeat (first|(refine lU ?_;simp only[];done)|apply kG)) zE) s2
 cases hn:qY a.1 with
 |false=>
  rw[hn]at hK
  simp only[↓reduceIte,go_sem]
  exact hK _ _ s02
 |true=>
  rw[hn]at hK
  simp only[bv]at hK
  by_cases h8:8<a.2.1.length
  ·rw[ah h8]at hK
   simp(disch:=first|omega|simp only[zz];try omega;done) only[↓reduceIte,go_sem,B0.at,B0.2.1,ai (show(8:Int)<(a.2.1.length:Int) by omega)]
   exact hK _ _ s02
  ·rw[af h8]at hK
   simp(disch:=first|omega|simp only[zz];try omega;done) only[↓reduceIte,go_sem,B0.at,B0.2.1,ae (show¬(8:Int)<(a.2.1.length:Int) by omega)]
   obtain⟨I,hI⟩:=kg (α:=Nat->ku->H->Prop) λi σ h'=>σ 1= .pointer (some ⟨h.size,0,none⟩)/\σ 3= Jx JT i/\i<=a.2.1.length/\ng mY a.2.1=ng mY (a.2.1.drop i)/\ ∃u',jD S0 u h u' h'/\jR u' h' h.size [str a.1,.slice va a.2.1.length vc,Jx JT a.2.2]
   refine jE I (λi=>a.2.1.length - i) 0 (by rw[hI];exact⟨zJ,zJ,aj _,rfl,u2,s02,B0⟩) ?_
   intro i σ h' hy
   rw[hI]at hy
   obtain⟨e1,e3,hi,hf,u',st,B⟩:=hy
   by_cases hlt:i<a.2.1.length
   ·obtain⟨x,hs⟩: ∃x,a.2.1[i]? =some x:=⟨a.2.1[i],by simp [hlt]⟩
    obtain⟨pb,po,rfl,hpb,hpu,hpz,hpr⟩:=(hv.mono st.ge).row i x hs
    rw[ko]at hpr
    simp only[jM.enc,lG,mQ,ax,aC]at hpr hpu hpz
    obtain⟨p0,p1,p2,p3⟩:=hpr
    simp(disch:=first|omega|simp only[zz];try omega;done) only[↓reduceIte,go_sem,e1,e3,B.at,B.2.1,hlt,p0,p1,p2,p3]
    refine jC (.inr ⟨rfl,u',x,_,rfl,by rw[ko];rfl,wa x (aF hs),λu3 h3 s3=>⟨jO,?_⟩⟩)
    rw[rY hs]at hf
    simp only[vI]
    by_cases h0:mY x=0
    ·rw[ah h0]at hf
     simp(disch:=omega) only[↓reduceIte,go_sem,e3,h0]
     refine⟨i+1,?_,zO⟩
     rw[hI]
     exact⟨by simp [jI,e1],zJ,hlt,hf,u3,st.tZ s3,B.sZ s3⟩
    ·rw[af h0]at hf
     rw[hf]at hK
     simp only[↓reduceIte,go_sem,ae h0]
     exact hK _ _ (st.tZ s3)
   ·obtain rfl:i=a.2.1.length:=zO
    rw[bB]at hf
    rw[hf]at hK
    simp(disch:=first|omega|simp only[zz];try omega;done) only[↓reduceIte,go_sem,e1,e3,B.at,B.2.1]
    exact hK _ _ st
def zo:lq:=λf vs h K _=>(f=150/\lL (vB yu) vs h K)\/(f=125/\lL (vI nC) vs h K)\/(f=148/\yT 149 mY vs h K)
theorem CE:lQ Tryz.prog zo:=lY aau (lY xC (pX Ga))
def Gb:lq:=λf vs h K _=>(f=154/\lL (vB yu) vs h K)\/(f=129/\lL (vI nC) vs h K)\/(f=153/\lL (vI mY) vs h K)
theorem JY:lQ Tryz.prog Gb:=lY aav (lY Fa (pX EU))
theorem Fe(hC:lL (vI vk) vs h K):kN Tryz.prog 127 vs h K KP:=by
 obtain⟨u,a,l,rfl,hr,⟨-,wat,-,wl,wr,-⟩,hK⟩:=hC
 rw[kP]at hr
 obtain⟨v,rfl,hv⟩:=hr
 obtain⟨va,vc,rfl,q1,q2⟩:=hv.sl
 have hm:=Gt
 simp only[vI,vk]at hK
 refine jJ (s:=lF) 281475048013879 [(none,(.t 2))] CE Tryz.func127 ?_ (by kernel_rfl) (by kernel_rfl)
 simp only[jM.enc,aP,aJ]
 by_cases hk:a.1=1\/a.1=2
 ·rw[ah hk]at hK
  by_cases ho:a.2.2.1=0
  ·simp only[ai ho,true_and]at hK
   have two: ∀R:Prop,(∀f1:(a.1=1)=True\/((a.1=1)=False/\(a.1=2)=True),R)->R:=λR hR=>by
    rcases hk with h|h
    ·exact hR (.inl (ai h))
    ·exact hR (.inr ⟨ae zO,ai h⟩)
   have start:wpS zo lF (uK lK (pz K KP)) (uy 0 [.agg (#[Jx JT a.1,str a.2.1.1,.slice va a.2.1.2.1.length vc,Jx JT a.2.1.2.2,Jx JT a.2.2.1,Jx JT a.2.2.2.1.1,Jx JT a.2.2.2.1.2.1,str a.2.2.2.1.2.2.1,Jx JT a.2.2.2.1.2.2.2,Jx JT a.2.2.2.2.1.1,Jx JT a.2.2.2.2.1.2.1,str a.2.2.2.2.1.2.2.1,Jx JT a.2.2.2.2.1.2.2.2,Jx JT a.2.2.2.2.2])] BM) h:=by
    rcases hk with hk1|hk2
    all_goals
     first
     |simp(disch:=omega) only[↓reduceIte,go_sem,lF,lK,ai hk1,ai ho]
     |simp(disch:=omega) only[↓reduceIte,go_sem,lF,lK,ae (show¬a.1=1 by omega),ai hk2,ai ho]
    all_goals
     refine jC (.inl ⟨rfl,ub u h.size 0,a.2.2.2.1,_,rfl,by rw[ko];rfl,wl,λu2 h2 s2=>⟨jO,?_⟩⟩)
     have s02:=jD.tZ (S:=S0) (u:=u) (h:=h) zT s2
     have B0:jR u2 h2 h.size [Jx JT a.1,str a.2.1.1,.slice va a.2.1.2.1.length vc,Jx JT a.2.1.2.2,Jx JT a.2.2.1,Jx JT a.2.2.2.1.1,Jx JT a.2.2.2.1.2.1,str a.2.2.2.1.2.2.1,Jx JT a.2.2.2.1.2.2.2,Jx JT a.2.2.2.2.1.1,Jx JT a.2.2.2.2.1.2.1,str a.2.2.2.2.1.2.2.1,Jx JT a.2.2.2.2.1.2.2.2,Jx JT a.2.2.2.2.2]:=jR.sZ (jR.mk zY zE zE (by repeat (first|(refine lU ?_;simp only[];done)|apply kG)) zE) s2
     have b0l:=B0.1
     simp only[vB]
     cases hz:yu a.2.2.2.1 with
     |false=>
      rw[hz]at hK
      simp only[aD,false_and,aW]at hK
      simp(disch:=first|omega|simp only[zz];try omega;done) only[↓reduceIte,go_sem,B0.at]
      exact hK _ _ s02
     |true=>
      rw[hz]at hK
      simp only[true_and]at hK
      simp(disch:=first|omega|simp only[zz];try omega;done) only[↓reduceIte,go_sem,B0.at,B0.2.1]
      refine jC (.inl ⟨rfl,u2,a.2.2.2.2.1,_,rfl,by rw[ko];rfl,wr,λu3 h3 s3=>⟨jO,?_⟩⟩)
      have s03:=s02.tZ s3
      have B1:=B0.sZ s3
      simp only[vB]
      cases hy:yu a.2.2.2.2.1 with
      |false=>
       rw[hy]at hK
       simp only[aD,aW]at hK
       simp only[↓reduceIte,go_sem]
       exact hK _ _ s03
      |true=>
       rw[hy]at hK
       simp only[bv]at hK
       simp(disch:=first|omega|simp only[zz];try omega;done) only[↓reduceIte,go_sem,B1.at,B1.2.1]
       refine jC (.inr (.inl ⟨rfl,u3,a.2.1,_,rfl,by rw[kE];exact⟨_,rfl,hv.mono s03.ge⟩,wat,λu4 h4 s4=>⟨jO,?_⟩⟩))
       simp only[↓reduceIte,go_sem,vI]
       exact hK _ _ (s03.tZ s4)
   exact start
  ·simp only[ae ho,false_and,aW]at hK
   rcases hk with hk1|hk2
   ·simp(disch:=omega) only[↓reduceIte,go_sem,lF,lK,ai hk1,ae ho]
    exact hK _ _ zT
   ·simp(disch:=omega) only[↓reduceIte,go_sem,lF,lK,ae (show¬a.1=1 by omega),ai hk2,ae ho]
    exact hK _ _ zT
 ·rw[af hk]at hK
  have k1:=ae (show¬a.1=1 by omega)
  have k2:=ae (show¬a.1=2 by omega)
  by_cases hk3:a.1=3
  ·rw[ah hk3]at hK
   unfold Sd at hK
   by_cases hop:a.2.2.1<1
   ·rw[ah (.inl hop)]at hK
    simp(disch:=omega) only[↓reduceIte,go_sem,lF,lK,k1,k2,ai hk3,ai hop]
    exact hK _ _ zT
   by_cases hop6:6<a.2.2.1
   ·rw[ah (.inr (.inl hop6))]at hK
    simp(disch:=omega) only[↓reduceIte,go_sem,lF,lK,k1,k2,ai hk3,ae hop,ai hop6]
    exact hK _ _ zT
   by_cases hpr:a.2.1.1=[]
   ·by_cases har:a.2.1.2.1=[]
    ·rw[af (by rintro (h|h|h|h);exact hop h;exact hop6 h;exact h hpr;exact h har)]at hK
     have hal:a.2.1.2.1.length=0:=by rw[har];rfl
     simp(disch:=omega) only[↓reduceIte,go_sem,lF,lK,k1,k2,ai hk3,ae hop,ae hop6,ai hpr,ae (show¬(0:Int)<(a.2.1.2.1.length:Int) by omega)]
     have hsl:=(lm.made (k:=0) (α:=jM) (ub u h.size 0) (h.push (.cells #[Jx JT a.1,str a.2.1.1,.slice va a.2.1.2.1.length vc,Jx JT a.2.1.2.2,Jx JT a.2.2.1,Jx JT a.2.2.2.1.1,Jx JT a.2.2.2.1.2.1,str a.2.2.2.1.2.2.1,Jx JT a.2.2.2.1.2.2.2,Jx JT a.2.2.2.2.1.1,Jx JT a.2.2.2.2.1.2.1,str a.2.2.2.2.1.2.2.1,Jx JT a.2.2.2.2.1.2.2.2,Jx JT a.2.2.2.2.2] 141)) (aj _) 74 [a.2.2.2.1,a.2.2.2.2.1] (jM.enc a.2.2.2.1++jM.enc a.2.2.2.2.1) rfl (by simp only[au,aA];decide) (λi x hx=>by
      match i with
      |0=>cases hx;rw[ko];rfl
      |1=>cases hx;rw[ko];rfl
      |i+2=>simp at hx)).iZ
     have sp:=(jD.qZ S0 u h #[Jx JT a.1,str a.2.1.1,.slice va a.2.1.2.1.length vc,Jx JT a.2.1.2.2,Jx JT a.2.2.1,Jx JT a.2.2.2.1.1,Jx JT a.2.2.2.1.2.1,str a.2.2.2.1.2.2.1,Jx JT a.2.2.2.1.2.2.2,Jx JT a.2.2.2.2.1.1,Jx JT a.2.2.2.2.1.2.1,str a.2.2.2.2.1.2.2.1,Jx JT a.2.2.2.2.1.2.2.2,Jx JT a.2.2.2.2.2] 141).tZ (jD.push S0 (ub u h.size 0) (h.push (.cells #[Jx JT a.1,str a.2.1.1,.slice va a.2.1.2.1.length vc,Jx JT a.2.1.2.2,Jx JT a.2.2.1,Jx JT a.2.2.2.1.1,Jx JT a.2.2.2.1.2.1,str a.2.2.2.1.2.2.1,Jx JT a.2.2.2.1.2.2.2,Jx JT a.2.2.2.2.1.1,Jx JT a.2.2.2.2.1.2.1,str a.2.2.2.2.1.2.2.1,Jx JT a.2.2.2.2.1.2.2.2,Jx JT a.2.2.2.2.2] 141)) (jM.enc a.2.2.2.1++jM.enc a.2.2.2.2.1).toArray 74 (2*4))
     simp only[kw,jM.enc,aP,aJ,au,aA,bJ,Nat.reduceAdd,Nat.reduceMul,lG]at hsl sp
     refine jC (.inr (.inr ⟨rfl,_,_,[a.2.2.2.1,a.2.2.2.2.1],rfl,hsl,(λx hx=>by
      rcases aH.1 hx with rfl|hx
      ·exact wl
      ·rw[aY]at hx;subst hx;exact wr),λu3 h3 s3=>⟨jO,?_⟩⟩))
     have hw2:ng mY [a.2.2.2.1,a.2.2.2.2.1]=if mY a.2.2.2.1=0 then mY a.2.2.2.2.1 else mY a.2.2.2.1:=by
      simp only[ng]
      by_cases h0:mY a.2.2.2.2.1=0
      ·rw[ah h0,h0]
      ·rw[af h0]
     rw[<-hw2]at hK
     simp only[↓reduceIte,go_sem,jN]
     exact hK _ _ (sp.tZ s3)
    ·have hal:0<a.2.1.2.1.length:=fQ.2 har
     rw[ah (.inr (.inr (.inr har)))]at hK
     simp(disch:=omega) only[↓reduceIte,go_sem,lF,lK,k1,k2,ai hk3,ae hop,ae hop6,ai hpr,ai (show(0:Int)<(a.2.1.2.1.length:Int) by omega)]
     exact hK _ _ zT
   ·rw[ah (.inr (.inr (.inl hpr)))]at hK
    simp(disch:=omega) only[↓reduceIte,go_sem,lF,lK,k1,k2,ai hk3,ae hop,ae hop6,ae hpr]
    exact hK _ _ zT
  ·rw[af hk3]at hK
   simp(disch:=omega) only[↓reduceIte,go_sem,lF,lK,k1,k2,ae hk3]
   exact hK _ _ zT
theorem OH(hC:lL (vI vk) vs h K):kN Tryz.prog 130 vs h K KP:=by
 obtain⟨u,a,l,rfl,hr,⟨-,wat,-,wl,wr,-⟩,hK⟩:=hC
 rw[kP]at hr
 obtain⟨v,rfl,hv⟩:=hr
 obtain⟨va,vc,rfl,q1,q2⟩:=hv.sl
 have hm:=Gt
 simp only[vI,vk]at hK
 refine jJ (s:=mR) 18577348605509743 [(none,(.t 2))] JY Tryz.func130 ?_ (by kernel_rfl) (by kernel_rfl)
 simp only[jM.enc,aP,aJ]
 by_cases hk:a.1=1\/a.1=2
 ·rw[ah hk]at hK
  by_cases ho:a.2.2.1=0
  ·simp only[ai ho,true_and]at hK
   have two: ∀R:Prop,(∀f1:(a.1=1)=True\/((a.1=1)=False/\(a.1=2)=True),R)->R:=λR hR=>by
    rcases hk with h|h
    ·exact hR (.inl (ai h))
    ·exact hR (.inr ⟨ae zO,ai h⟩)
   have start:wpS Gb mR (uK nu (pz K KP)) (uy 0 [.agg (#[Jx JT a.1,str a.2.1.1,.slice va a.2.1.2.1.length vc,Jx JT a.2.1.2.2,Jx JT a.2.2.1,Jx JT a.2.2.2.1.1,Jx JT a.2.2.2.1.2.1,str a.2.2.2.1.2.2.1,Jx JT a.2.2.2.1.2.2.2,Jx JT a.2.2.2.2.1.1,Jx JT a.2.2.2.2.1.2.1,str a.2.2.2.2.1.2.2.1,Jx JT a.2.2.2.2.1.2.2.2,Jx JT a.2.2.2.2.2])] BM) h:=by
    rcases hk with hk1|hk2
    all_goals
     first
     |simp(disch:=omega) only[↓reduceIte,go_sem,mR,nu,ai hk1,ai ho]
     |simp(disch:=omega) only[↓reduceIte,go_sem,mR,nu,ae (show¬a.1=1 by omega),ai hk2,ai ho]
    all_goals
     refine jC (.inl ⟨rfl,ub u h.size 0,a.2.2.2.1,_,rfl,by rw[ko];rfl,wl,λu2 h2 s2=>⟨jO,?_⟩⟩)
     have s02:=jD.tZ (S:=S0) (u:=u) (h:=h) zT s2
     have B0:jR u2 h2 h.size [Jx JT a.1,str a.2.1.1,.slice va a.2.1.2.1.length vc,Jx JT a.2.1.2.2,Jx JT a.2.2.1,Jx JT a.2.2.2.1.1,Jx JT a.2.2.2.1.2.1,str a.2.2.2.1.2.2.1,Jx JT a.2.2.2.1.2.2.2,Jx JT a.2.2.2.2.1.1,Jx JT a.2.2.2.2.1.2.1,str a.2.2.2.2.1.2.2.1,Jx JT a.2.2.2.2.1.2.2.2,Jx JT a.2.2.2.2.2]:=jR.sZ (jR.mk zY zE zE (by repeat (first|(refine lU ?_;simp only[];done)|apply kG)) zE) s2
     have b0l:=B0.1
     simp only[vB]
     cases hz:yu a.2.2.2.1 with
     |false=>
      rw[hz]at hK
      simp only[aD,false_and,aW]at hK
      simp(disch:=first|omega|simp only[zz];try omega;done) only[↓reduceIte,go_sem,B0.at]
      exact hK _ _ s02
     |true=>
      rw[hz]at hK
      simp only[true_and]at hK
      simp(disch:=first|omega|simp only[zz];try omega;done) only[↓reduceIte,go_sem,B0.at,B0.2.1]
      refine jC (.inl ⟨rfl,u2,a.2.2.2.2.1,_,rfl,by rw[ko];rfl,wr,λu3 h3 s3=>⟨jO,?_⟩⟩)
      have s03:=s02.tZ s3
      have B1:=B0.sZ s3
      simp only[vB]
      cases hy:yu a.2.2.2.2.1 with
      |false=>
       rw[hy]at hK
       simp only[aD,aW]at hK
       simp only[↓reduceIte,go_sem]
       exact hK _ _ s03
      |true=>
       rw[hy]at hK
       simp only[bv]at hK
       simp(disch:=first|omega|simp only[zz];try omega;done) only[↓reduceIte,go_sem,B1.at,B1.2.1]
       refine jC (.inr (.inl ⟨rfl,u3,a.2.1,_,rfl,by rw[kE];exact⟨_,rfl,hv.mono s03.ge⟩,wat,λu4 h4 s4=>⟨jO,?_⟩⟩))
       simp only[↓reduceIte,go_sem,vI]
       exact hK _ _ (s03.tZ s4)
   exact start
  ·simp only[ae ho,false_and,aW]at hK
   rcases hk with hk1|hk2
   ·simp(disch:=omega) only[↓reduceIte,go_sem,mR,nu,ai hk1,ae ho]
    exact hK _ _ zT
   ·simp(disch:=omega) only[↓reduceIte,go_sem,mR,nu,ae (show¬a.1=1 by omega),ai hk2,ae ho]
    exact hK _ _ zT
 ·rw[af hk]at hK
  have k1:=ae (show¬a.1=1 by omega)
  have k2:=ae (show¬a.1=2 by omega)
  by_cases hk3:a.1=3
  ·rw[ah hk3]at hK
   unfold Sd at hK
   by_cases hop:a.2.2.1<1
   ·rw[ah (.inl hop)]at hK
    simp(disch:=omega) only[↓reduceIte,go_sem,mR,nu,k1,k2,ai hk3,ai hop]
    exact hK _ _ zT
   by_cases hop6:6<a.2.2.1
   ·rw[ah (.inr (.inl hop6))]at hK
    simp(disch:=omega) only[↓reduceIte,go_sem,mR,nu,k1,k2,ai hk3,ae hop,ai hop6]
    exact hK _ _ zT
   by_cases hpr:a.2.1.1=[]
   ·by_cases har:a.2.1.2.1=[]
    ·rw[af (by rintro (h|h|h|h);exact hop h;exact hop6 h;exact h hpr;exact h har)]at hK
     have hal:a.2.1.2.1.length=0:=by rw[har];rfl
     simp(disch:=omega) only[↓reduceIte,go_sem,mR,nu,k1,k2,ai hk3,ae hop,ae hop6,ai hpr,ae (show¬(0:Int)<(a.2.1.2.1.length:Int) by omega)]
     refine jC (.inr (.inr ⟨rfl,ub u h.size 0,a.2.2.2.1,_,rfl,by rw[ko];rfl,wl,λu2 h2 s2=>⟨jO,?_⟩⟩))
     have s02:=jD.tZ (S:=S0) (u:=u) (h:=h) zT s2
     have B0:jR u2 h2 h.size [Jx JT a.1,str a.2.1.1,.slice va a.2.1.2.1.length vc,Jx JT a.2.1.2.2,Jx JT a.2.2.1,Jx JT a.2.2.2.1.1,Jx JT a.2.2.2.1.2.1,str a.2.2.2.1.2.2.1,Jx JT a.2.2.2.1.2.2.2,Jx JT a.2.2.2.2.1.1,Jx JT a.2.2.2.2.1.2.1,str a.2.2.2.2.1.2.2.1,Jx JT a.2.2.2.2.1.2.2.2,Jx JT a.2.2.2.2.2]:=jR.sZ (jR.mk zY zE zE (by repeat (first|(refine lU ?_;simp only[];done)|apply kG)) zE) s2
     have b0l:=B0.1
     simp only[vI]
     by_cases h0:mY a.2.2.2.1=0
     ·rw[ah h0]at hK
      simp(disch:=first|omega|simp only[zz];try omega;done) only[↓reduceIte,go_sem,B0.at,B0.2.1,h0]
      refine jC (.inr (.inr ⟨rfl,u2,a.2.2.2.2.1,_,rfl,by rw[ko];rfl,wr,λu3 h3 s3=>⟨jO,?_⟩⟩))
      simp only[↓reduceIte,go_sem,vI]
      exact hK _ _ (s02.tZ s3)
     ·rw[af h0]at hK
      simp only[↓reduceIte,go_sem,ae h0]
      exact hK _ _ s02
    ·have hal:0<a.2.1.2.1.length:=fQ.2 har
     rw[ah (.inr (.inr (.inr har)))]at hK
     simp(disch:=omega) only[↓reduceIte,go_sem,mR,nu,k1,k2,ai hk3,ae hop,ae hop6,ai hpr,ai (show(0:Int)<(a.2.1.2.1.length:Int) by omega)]
     exact hK _ _ zT
   ·rw[ah (.inr (.inr (.inl hpr)))]at hK
    simp(disch:=omega) only[↓reduceIte,go_sem,mR,nu,k1,k2,ai hk3,ae hop,ae hop6,ae hpr]
    exact hK _ _ zT
  ·rw[af hk3]at hK
   simp(disch:=omega) only[↓reduceIte,go_sem,mR,nu,k1,k2,ae hk3]
   exact hK _ _ zT
def WE:lq:=λf vs h K _=>(f=127/\lL (vI vk) vs h K)
theorem KY:lQ Tryz.prog WE:=pX Fe
theorem Tf(hC:yT 127 vk vs h K):kN Tryz.prog 126 vs h K KP:=by
 obtain⟨u,v,l,rfl,hl,hw,hK⟩:=hC
 obtain⟨la,lc,rfl,q1,q2⟩:=hl.sl
 have hm:=Gt
 refine jJ 266195 [(none,(.t 4))] KY Tryz.func126 ?_
 simp only[↓reduceIte,go_sem]
 obtain⟨I,hI⟩:=kg (α:=Nat->ku->H->Prop) λi σ h'=>σ 1= .func (.func 127) #[] #[]/\σ 8= .slice la l.length lc/\σ 9= Jx JT l.length/\σ 10= Jx JT i/\i<=l.length/\ng vk l=ng vk (l.drop i)/\ ∃u',jD S0 u h u' h'
 refine jE I (λi=>l.length - i) 0 (by rw[hI];exact⟨zJ,zJ,zJ,zJ,aj _,rfl,u,.refl _ _ _⟩) ?_
 intro i σ h' hy
 rw[hI]at hy
 obtain⟨e1,e8,e9,e10,hi,hf,u',st⟩:=hy
 by_cases hlt:i<l.length
 ·obtain⟨x,hs⟩:=qP hlt
  obtain⟨pb,po,rfl,hpb,hpu,hpz,hpr⟩:=(hl.mono st.ge).row i x hs
  rw[kP]at hpr
  obtain⟨pv,hpr,hpv⟩:=hpr
  obtain⟨pva,pvc,rfl,-,-⟩:=hpv.sl
  simp only[jM.enc,lJ,pm,aP,aJ,ax,aC]at hpr hpu hpz
  obtain⟨p0,p1,p2,p3,p4,p5,p6,p7,p8,p9,p10,p11,p12,p13⟩:=hpr
  simp(disch:=omega) only[↓reduceIte,go_sem,e1,e8,e9,e10,hlt,p0,p1,p2,p3,p4,p5,p6,p7,p8,p9,p10,p11,p12,p13]
  refine vS ⟨rfl,_,x,_,rfl,by rw[kP];exact⟨_,rfl,hpv.mono (jD.ge (S:=S0) zT)⟩,hw x (aF hs),λu2 h2 s2=>⟨jO,?_⟩⟩
  have s12:=jD.tZ (S:=S0) (u:=u') (h:=h') zT s2
  rw[rY hs]at hf
  simp only[vI]
  by_cases h0:vk x=0
  ·rw[ah h0]at hf
   simp(disch:=omega) only[↓reduceIte,go_sem,e10,h0]
   refine⟨i+1,?_,zO⟩
   rw[hI]
   exact⟨by simp [jI,e1],by simp [jI,e8],by simp [jI,e9],zJ,hlt,hf,u2,st.tZ s12⟩
  ·rw[af h0]at hf
   rw[hf]at hK
   simp only[↓reduceIte,go_sem,ae h0]
   exact hK _ _ (st.tZ s12)
 ·obtain rfl:i=l.length:=zO
  rw[bB]at hf
  rw[hf]at hK
  simp only[↓reduceIte,go_sem,e9,e10]
  exact hK _ _ st
def JZ:lq:=λf vs h K _=>(f=125/\lL (vI nC) vs h K)\/(f=126/\yT 127 vk vs h K)
theorem Ef:lQ Tryz.prog JZ:=lY xC (pX Tf)
theorem Gx(hC:lL (vI lw) vs h K):kN Tryz.prog 100 vs h K KP:=by
 obtain⟨u,a,l,rfl,hr,⟨wat,⟨-,wb⟩⟩,hK⟩:=hC
 rw[lH]at hr
 obtain⟨v,w,rfl,hv,hw⟩:=hr
 obtain⟨va,vc,rfl,-,-⟩:=hv.sl
 obtain⟨wa,wc,rfl,q1,q2⟩:=hw.sl
 have hm:=Gt
 simp only[vI,lw]at hK
 refine jJ 8463 [(none,(.t 2))] Ef Tryz.func100 ?_
 simp(disch:=omega) only[↓reduceIte,go_sem]
 refine jC (.inl ⟨rfl,_,a.1,_,rfl,by rw[kE];exact⟨_,rfl,hv.mono (jD.ge (S:=S0) zT)⟩,wat,λu2 h2 s2=>⟨jO,?_⟩⟩)
 have s02:=jD.tZ (S:=S0) (u:=u) (h:=h) zT s2
 have B0:jR u2 h2 h.size [str a.1.1,.slice va a.1.2.1.length vc,Jx JT a.1.2.2,.slice wa a.2.length wc]:=jR.sZ (jR.mk zY zE zE (by repeat (first|(refine lU ?_;simp only[];done)|apply kG)) zE) s2
 simp only[vI]
 by_cases h0:nC a.1=0
 ·rw[ah h0]at hK
  by_cases h8:16<a.2.length
  ·rw[ah h8]at hK
   simp(disch:=first|omega|simp only[zz];try omega;done) only[↓reduceIte,go_sem,B0.at,B0.2.1,h0,ai (show(16:Int)<(a.2.length:Int) by omega)]
   exact hK _ _ s02
  ·rw[af h8]at hK
   simp(disch:=first|omega|simp only[zz];try omega;done) only[↓reduceIte,go_sem,B0.at,B0.2.1,h0,ae (show¬(16:Int)<(a.2.length:Int) by omega)]
   refine jC (.inr ⟨rfl,u2,_,a.2,rfl,hw.mono s02.ge,wb,λu3 h3 s3=>⟨jO,?_⟩⟩)
   simp only[↓reduceIte,go_sem,jN]
   exact hK _ _ (s02.tZ s3)
 ·rw[af h0]at hK
  simp only[↓reduceIte,go_sem,ae h0]
  exact hK _ _ s02
def WF:lq:=λf vs h K _=>(f=129/\lL (vI nC) vs h K)\/(f=130/\lL (vI vk) vs h K)
theorem KZ:lQ Tryz.prog WF:=lY Fa (pX OH)
theorem Tg(hC:lL (vI lw) vs h K):kN Tryz.prog 102 vs h K KP:=by
 obtain⟨u,a,l,rfl,hr,⟨wat,⟨-,wb⟩⟩,hK⟩:=hC
 rw[lH]at hr
 obtain⟨v,w,rfl,hv,hw⟩:=hr
 obtain⟨va,vc,rfl,-,-⟩:=hv.sl
 obtain⟨wa,wc,rfl,q1,q2⟩:=hw.sl
 have hm:=Gt
 simp only[vI,lw]at hK
 refine jJ 537412127 [(none,(.t 2))] KZ Tryz.func102 ?_
 simp(disch:=omega) only[↓reduceIte,go_sem]
 refine jC (.inl ⟨rfl,_,a.1,_,rfl,by rw[kE];exact⟨_,rfl,hv.mono (jD.ge (S:=S0) zT)⟩,wat,λu2 h2 s2=>⟨jO,?_⟩⟩)
 have s02:=jD.tZ (S:=S0) (u:=u) (h:=h) zT s2
 have B0:jR u2 h2 h.size [str a.1.1,.slice va a.1.2.1.length vc,Jx JT a.1.2.2,.slice wa a.2.length wc]:=jR.sZ (jR.mk zY zE zE (by repeat (first|(refine lU ?_;simp only[];done)|apply kG)) zE) s2
 simp only[vI]
 by_cases h0:nC a.1=0
 ·rw[ah h0]at hK
  by_cases h8:16<a.2.length
  ·rw[ah h8]at hK
   simp(disch:=first|omega|simp only[zz];try omega;done) only[↓reduceIte,go_sem,B0.at,B0.2.1,h0,ai (show(16:Int)<(a.2.length:Int) by omega)]
   exact hK _ _ s02
  ·rw[af h8]at hK
   simp(disch:=first|omega|simp only[zz];try omega;done) only[↓reduceIte,go_sem,B0.at,B0.2.1,h0,ae (show¬(16:Int)<(a.2.length:Int) by omega)]
   obtain⟨I,hI⟩:=kg (α:=Nat->ku->H->Prop) λi σ h'=>σ 1= .pointer (some ⟨h.size,0,none⟩)/\σ 4= Jx JT i/\i<=a.2.length/\ng vk a.2=ng vk (a.2.drop i)/\ ∃u',jD S0 u h u' h'/\jR u' h' h.size [str a.1.1,.slice va a.1.2.1.length vc,Jx JT a.1.2.2,.slice wa a.2.length wc]
   refine jE I (λi=>a.2.length - i) 0 (by rw[hI];exact⟨zJ,zJ,aj _,rfl,u2,s02,B0⟩) ?_
   intro i σ h' hy
   rw[hI]at hy
   obtain⟨e1,e3,hi,hf,u',st,B⟩:=hy
   by_cases hlt:i<a.2.length
   ·obtain⟨x,hs⟩: ∃x,a.2[i]? =some x:=⟨a.2[i],by simp [hlt]⟩
    obtain⟨pb,po,rfl,hpb,hpu,hpz,hpr⟩:=(hw.mono st.ge).row i x hs
    rw[kP]at hpr
    obtain⟨pv,hpr,hpv⟩:=hpr
    obtain⟨pva,pvc,rfl,-,-⟩:=hpv.sl
    simp only[jM.enc,lJ,pm,aP,aJ,ax,aC]at hpr hpu hpz
    obtain⟨p0,p1,p2,p3,p4,p5,p6,p7,p8,p9,p10,p11,p12,p13⟩:=hpr
    simp(disch:=first|omega|simp only[zz];try omega;done) only[↓reduceIte,go_sem,e1,e3,B.at,B.2.1,hlt,p0,p1,p2,p3,p4,p5,p6,p7,p8,p9,p10,p11,p12,p13]
    refine jC (.inr ⟨rfl,u',x,_,rfl,by rw[kP];exact⟨_,rfl,hpv⟩,wb x (aF hs),λu3 h3 s3=>⟨jO,?_⟩⟩)
    rw[rY hs]at hf
    simp only[vI]
    by_cases h0:vk x=0
    ·rw[ah h0]at hf
     simp(disch:=omega) only[↓reduceIte,go_sem,e3,h0]
     refine⟨i+1,?_,zO⟩
     rw[hI]
     exact⟨by simp [jI,e1],zJ,hlt,hf,u3,st.tZ s3,B.sZ s3⟩
    ·rw[af h0]at hf
     rw[hf]at hK
     simp only[↓reduceIte,go_sem,ae h0]
     exact hK _ _ (st.tZ s3)
   ·obtain rfl:i=a.2.length:=zO
    rw[bB]at hf
    rw[hf]at hK
    simp(disch:=first|omega|simp only[zz];try omega;done) only[↓reduceIte,go_sem,e1,e3,B.at,B.2.1]
    exact hK _ _ st
 ·rw[af h0]at hK
  simp only[↓reduceIte,go_sem,ae h0]
  exact hK _ _ s02
def WG:lq:=λf vs h K _=>(f=100/\lL (vI lw) vs h K)
theorem La:lQ Tryz.prog WG:=pX Gx
theorem Tj(hC:yT 100 lw vs h K):kN Tryz.prog 99 vs h K KP:=by
 obtain⟨u,v,l,rfl,hl,hw,hK⟩:=hC
 obtain⟨la,lc,rfl,q1,q2⟩:=hl.sl
 have hm:=Gt
 refine jJ 266195 [(none,(.t 4))] La Tryz.func99 ?_
 simp only[↓reduceIte,go_sem]
 obtain⟨I,hI⟩:=kg (α:=Nat->ku->H->Prop) λi σ h'=>σ 1= .func (.func 100) #[] #[]/\σ 8= .slice la l.length lc/\σ 9= Jx JT l.length/\σ 10= Jx JT i/\i<=l.length/\ng lw l=ng lw (l.drop i)/\ ∃u',jD S0 u h u' h'
 refine jE I (λi=>l.length - i) 0 (by rw[hI];exact⟨zJ,zJ,zJ,zJ,aj _,rfl,u,.refl _ _ _⟩) ?_
 intro i σ h' hy
 rw[hI]at hy
 obtain⟨e1,e8,e9,e10,hi,hf,u',st⟩:=hy
 by_cases hlt:i<l.length
 ·obtain⟨x,hs⟩:=qP hlt
  obtain⟨pb,po,rfl,hpb,hpu,hpz,hpr⟩:=(hl.mono st.ge).row i x hs
  rw[lH]at hpr
  obtain⟨pv,pw,hpr,hpv,hpw⟩:=hpr
  obtain⟨pva,pvc,rfl,-,-⟩:=hpv.sl
  obtain⟨pwa,pwc,rfl,-,-⟩:=hpw.sl
  simp only[nH,mQ,ax,aC]at hpr hpu hpz
  obtain⟨p0,p1,p2,p3⟩:=hpr
  simp(disch:=omega) only[↓reduceIte,go_sem,e1,e8,e9,e10,hlt,p0,p1,p2,p3]
  refine vS ⟨rfl,_,x,_,rfl,by rw[lH];exact⟨_,_,rfl,hpv.mono (jD.ge (S:=S0) zT),hpw.mono (jD.ge (S:=S0) zT)⟩,hw x (aF hs),λu2 h2 s2=>⟨jO,?_⟩⟩
  have s12:=jD.tZ (S:=S0) (u:=u') (h:=h') zT s2
  rw[rY hs]at hf
  simp only[vI]
  by_cases h0:lw x=0
  ·rw[ah h0]at hf
   simp(disch:=omega) only[↓reduceIte,go_sem,e10,h0]
   refine⟨i+1,?_,zO⟩
   rw[hI]
   exact⟨by simp [jI,e1],by simp [jI,e8],by simp [jI,e9],zJ,hlt,hf,u2,st.tZ s12⟩
  ·rw[af h0]at hf
   rw[hf]at hK
   simp only[↓reduceIte,go_sem,ae h0]
   exact hK _ _ (st.tZ s12)
 ·obtain rfl:i=l.length:=zO
  rw[bB]at hf
  rw[hf]at hK
  simp only[↓reduceIte,go_sem,e9,e10]
  exact hK _ _ st
def adY:lq:=λf vs h K _=>(f=99/\yT 100 lw vs h K)
theorem Tk:lQ Tryz.prog adY:=pX Tj
theorem aaK(hC:lL (vI qI) vs h K):kN Tryz.prog 62 vs h K KP:=by
 obtain⟨u,a,l,rfl,hr,⟨-,wb⟩,hK⟩:=hC
 rw[mf]at hr
 obtain⟨w,rfl,hw⟩:=hr
 obtain⟨wa,wc,rfl,q1,q2⟩:=hw.sl
 have hm:=Gt
 simp only[vI,qI]at hK
 refine jJ 71 [(none,(.t 2))] Tk Tryz.func62 ?_
 by_cases h8:512<a.length
 ·rw[ah h8]at hK
  simp(disch:=omega) only[↓reduceIte,go_sem,ai (show(512:Int)<(a.length:Int) by omega)]
  exact hK _ _ zT
 ·rw[af h8]at hK
  simp(disch:=omega) only[↓reduceIte,go_sem,ae (show¬(512:Int)<(a.length:Int) by omega)]
  refine jC ⟨rfl,_,_,a,rfl,hw.mono (jD.ge (S:=S0) zT),wb,λu3 h3 s3=>⟨jO,?_⟩⟩
  simp only[↓reduceIte,go_sem,jN]
  exact hK _ _ (jD.tZ zT s3)
def adZ:lq:=λf vs h K _=>(f=102/\lL (vI lw) vs h K)
theorem Tm:lQ Tryz.prog adZ:=pX Tg
theorem aaL(hC:lL (vI qI) vs h K):kN Tryz.prog 74 vs h K KP:=by
 obtain⟨u,a,l,rfl,hr,⟨-,wb⟩,hK⟩:=hC
 rw[mf]at hr
 obtain⟨w,rfl,hw⟩:=hr
 obtain⟨wa,wc,rfl,q1,q2⟩:=hw.sl
 have hm:=Gt
 simp only[vI,qI]at hK
 refine jJ 8397087 [(none,(.t 2))] Tm Tryz.func74 ?_
 by_cases h8:512<a.length
 ·rw[ah h8]at hK
  simp(disch:=omega) only[↓reduceIte,go_sem,ai (show(512:Int)<(a.length:Int) by omega)]
  exact hK _ _ zT
 ·rw[af h8]at hK
  simp(disch:=omega) only[↓reduceIte,go_sem,ae (show¬(512:Int)<(a.length:Int) by omega)]
  obtain⟨I,hI⟩:=kg (α:=Nat->ku->H->Prop) λi σ h'=>σ 1= .pointer (some ⟨h.size,0,none⟩)/\σ 3= Jx JT i/\i<=a.length/\ng lw a=ng lw (a.drop i)/\ ∃u',jD S0 u h u' h'/\jR u' h' h.size [.slice wa a.length wc]
  refine jE I (λi=>a.length - i) 0 (by rw[hI];exact⟨zJ,zJ,aj _,rfl,_,zT,(jR.mk zY zE zE (by repeat (first|(refine lU ?_;simp only[];done)|apply kG)) zE)⟩) ?_
  intro i σ h' hy
  rw[hI]at hy
  obtain⟨e1,e3,hi,hf,u',st,B⟩:=hy
  by_cases hlt:i<a.length
  ·obtain⟨x,hs⟩:=qP hlt
   obtain⟨pb,po,rfl,hpb,hpu,hpz,hpr⟩:=(hw.mono st.ge).row i x hs
   rw[lH]at hpr
   obtain⟨pv,pw,hpr,hpv,hpw⟩:=hpr
   obtain⟨pva,pvc,rfl,-,-⟩:=hpv.sl
   obtain⟨pwa,pwc,rfl,-,-⟩:=hpw.sl
   simp only[nH,mQ,ax,aC]at hpr hpu hpz
   obtain⟨p0,p1,p2,p3⟩:=hpr
   simp(disch:=first|omega|simp only[zz];try omega;done) only[↓reduceIte,go_sem,e1,e3,B.at,B.2.1,hlt,p0,p1,p2,p3]
   refine jC (⟨rfl,u',x,_,rfl,by rw[lH];exact⟨_,_,rfl,hpv,hpw⟩,wb x (aF hs),λu3 h3 s3=>⟨jO,?_⟩⟩)
   rw[rY hs]at hf
   simp only[vI]
   by_cases h0:lw x=0
   ·rw[ah h0]at hf
    simp(disch:=omega) only[↓reduceIte,go_sem,e3,h0]
    refine⟨i+1,?_,zO⟩
    rw[hI]
    exact⟨by simp [jI,e1],zJ,hlt,hf,u3,st.tZ s3,B.sZ s3⟩
   ·rw[af h0]at hf
    rw[hf]at hK
    simp only[↓reduceIte,go_sem,ae h0]
    exact hK _ _ (st.tZ s3)
  ·obtain rfl:i=a.length:=zO
   rw[bB]at hf
   rw[hf]at hK
   simp(disch:=first|omega|simp only[zz];try omega;done) only[↓reduceIte,go_sem,e1,e3,B.at,B.2.1]
   exact hK _ _ st
end Go.Proofs.Z
