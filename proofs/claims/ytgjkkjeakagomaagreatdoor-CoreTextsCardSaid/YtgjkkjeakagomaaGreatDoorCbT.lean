/- A part of the proof. -/
import Derived.Test.YtgjkkjeakagomaaGreatDoorRefS
import Derived.Test.YtgjkkjeakagomaaGreatDoorData
set_option linter.all false
set_option maxRecDepth 100000
set_option maxHeartbeats 4000000
open Go.Value renaming int→Jx
open Go.IntKind renaming i64→JT
namespace Edict
variable {i:Nat} {l:List jZ} {x:jZ}
abbrev lN:=List (List UInt8)
def kV(vs:lN)(t:jM):lN:=if t.1=4/\(t.2.2.1=[95]\/t.2.2.1 ∉ vs)then vs++[t.2.2.1]else vs
def tu(vs:lN)(l:jZ):lN:=if l.1=1 then l.2.1.2.1.foldl kV vs else vs
def jF(ls:List jZ):lN:=ls.foldl tu []
theorem pI{α β:Type}{f:β->α->β}{b:β}{l:List α}{x:α}(h:l[i]? =some x):(l.take (i+1)).foldl f b=f ((l.take i).foldl f b) x:=by
 rw[aX,h,bC,fJ];rfl
def Om(l:jZ):Nat:=l.2.1.2.1.length
def Ky(ls:List jZ):Nat:=(ls.map Om).sum
theorem Sc(vs:lN)(t:jM):(kV vs t).length<=vs.length+1:=by unfold kV;split<;>simp
theorem BH: ∀(l:List jM) (vs:lN),(l.foldl kV vs).length<=vs.length+l.length
 |[],vs=>by simp
 |t::l,vs=>by have:=BH l (kV vs t);have:=Sc vs t;simp only[bN,au];omega
theorem vM: ∀(l:List jZ) (vs:lN),(l.foldl tu vs).length<=vs.length+Ky l
 |[],vs=>by simp [Ky]
 |x::l,vs=>by
  have h1:=vM l (tu vs x)
  have h2:(tu vs x).length<=vs.length+Om x:=by
   unfold tu Om;split
   ·exact BH _ _
   ·omega
  simp only[bN,Ky,aS,iA]at h1 ⊢
  omega
theorem JH(h:l[i]? =some x):Ky (l.take i)+Om x<=Ky l:=by
 have e:Ky l=Ky (l.take i)+Ky (l.drop i):=by unfold Ky;rw[<-jq,<-bH,bV]
 obtain⟨hi,rfl⟩:=aB.1 h
 rw[e,aN hi]
 simp only[Ky,aS,iA]
 omega
open Go.Ev in
theorem DZ: ∀l:List jZ,Ky l<=bulkL l
 |[]=>aj _
 |x::l=>by
  have h1:=DZ l
  have h2:=pq x.2.1.2.1
  have h3:Rep.bulk x=1+((x.2.1.1.length+1+(bulkL x.2.1.2.1+1))+(1+(Rep.bulk x.2.2.2.1+(Rep.bulk x.2.2.2.2.1+1)))):=rfl
  simp only[Ky,aS,iA,bulkL,Om]at h1 ⊢
  omega
theorem Mq{j:Nat}(h:l[i]? =some x):((x.2.1.2.1.take j).foldl kV (jF (l.take i))).length<=Go.Ev.bulkL l:=by
 have h1:=BH (x.2.1.2.1.take j) (jF (l.take i))
 have h2:=vM (l.take i) []
 have h3:=JH h
 have h4:=DZ l
 have h5:(x.2.1.2.1.take j).length<=Om x:=by rw[aR];exact fP _ _
 unfold jF at h1 ⊢
 simp only[aA]at h2
 omega
end Edict
namespace Go.Proofs.Z
open Go Go.Ev Edict
variable {vs:List Value} {h:H} {K:Value->H->Prop} {KP:List PanicEntry->H->Prop}
theorem lC:maxLen=9223372036854775807:=rfl
def YF(vs:List Value)(h:H)(K:Value->H->Prop):Prop:= ∃(u:U) (v:Value) (l:lN) (s:List UInt8),vs=[v,str s]/\jS u h v l/\ ∀i:Int,(i<0↔s ∉ l)->K (Jx JT i) h
theorem We(hC:YF vs h K):kN Tryz.prog 108 vs h K KP:=by
 obtain⟨u,v,l,s,rfl,hl,hK⟩:=hC
 obtain⟨la,lc,rfl,q1,q2⟩:=hl.sl
 have hm:=lC
 refine jJ 131635 [(none,(.t 4))] (G:=(λ_ _ _ _ _=>False)) (λ_ _ _ _ _ h=>h.elim) Tryz.func108 ?_
 simp only[go_sem]
 obtain⟨I,hI⟩:=kg (α:=Nat->ku->H->Prop) λi σ h'=>σ 0= .slice la l.length lc/\σ 1=str s/\σ 5= Jx JT i/\i<=l.length/\s ∉ l.take i/\h'=h
 refine jE I (λi=>l.length - i) 0 (by rw[hI];exact⟨zJ,zJ,zJ,aj _,zP,rfl⟩) ?_
 intro i σ h' hy
 rw[hI]at hy
 obtain⟨e0,e1,e5,hi,hno,rfl⟩:=hy
 by_cases hlt:i<l.length
 ·obtain⟨x,hs⟩:=qP hlt
  obtain⟨pb,po,rfl,hpb,hpu,hpz,hpr⟩:=hl.row i x hs
  simp only[mE,He,qR,ax,aC]at hpr hpu hpz
  by_cases he:x=s
  ·simp(disch:=omega) only[↓reduceIte,go_sem,e0,e1,e5,hlt,hpr,ai he]
   exact hK i ⟨λh=>zO,λh=>absurd (aF (he▸hs)) h⟩
  ·simp(disch:=omega) only[↓reduceIte,go_sem,e0,e1,e5,hlt,hpr,ae he]
   refine⟨i+1,?_,zO⟩
   rw[hI]
   refine⟨by simp [jI,e0],by simp [jI,e1],zJ,hlt,?_,rfl⟩
   rw[aX,hs,bC,aV,aY]
   rintro (h|h)
   ·exact hno h
   ·exact he h.symm
 ·obtain rfl:i=l.length:=zO
  rw[aK]at hno
  simp only[↓reduceIte,go_sem,e0,e5]
  exact hK _ ⟨λ_=>hno,λ_=>zO⟩
def JI(vs:List Value)(h:H)(K:Value->H->Prop):Prop:= ∃(u:U) (v:Value) (ls:List jZ),vs=[v]/\jS u h v ls/\bulkL ls<=1048576/\ ∀u' h' w,jD S0 u h u' h'->jS u' h' w (jF ls)->K w h'
def JJ:lq:=λf vs h K _=>f=108/\YF vs h K
theorem FP:lQ Tryz.prog JJ:=by
 rintro f vs h K KP ⟨rfl,hC⟩;exact We hC
theorem aas(hC:JI vs h K):kN Tryz.prog 105 vs h K KP:=by
 obtain⟨u,v,ls,rfl,hl,hbk,hK⟩:=hC
 obtain⟨la,lc,rfl,q1,q2⟩:=hl.sl
 have hm:=lC
 refine jJ 9007199389222013 [(none,(.t 2))] FP Tryz.func105 ?_
 simp only[go_sem]
 obtain⟨I,hI⟩:=kg (α:=Nat->ku->H->Prop) λi σ h'=>σ 0= .slice la ls.length lc/\σ 4= Jx JT i/\i<=ls.length/\ ∃u',jD S0 u h u' h'/\lm h.size u' h' (σ 3) (jF (ls.take i))
 refine jE I (λi=>ls.length - i) 0 (by rw[hI];exact⟨zJ,zJ,aj _,u,.refl _ _ _,by simp only[jI];exact .nil _ _ _⟩) ?_
 intro i σ h' hy
 rw[hI]at hy
 obtain⟨e0,e4,hi,u',st,ho⟩:=hy
 by_cases hlt:i<ls.length
 ·obtain⟨x,hs⟩:=qP hlt
  obtain⟨pb,po,rfl,hpb,hpu,hpz,hpr⟩:=(hl.mono st.ge).row i x hs
  rw[kP]at hpr
  obtain⟨pv,hpr,hpv⟩:=hpr
  obtain⟨pva,pvc,rfl,-,-⟩:=hpv.sl
  have hpr0:=hpr
  simp only[jM.enc,lJ,pm,aP,aJ,ax,aC]at hpr0 hpu hpz
  obtain⟨p0,p1,p2,-⟩:=hpr0
  by_cases hk:x.1=1
  ·simp(disch:=omega) only[↓reduceIte,go_sem,e0,e4,hlt,p0,ai hk]
   obtain⟨J,hJ⟩:=kg (α:=Nat->ku->H->Prop) λj σ h'=>σ 0= .slice (some ⟨pb,po,none⟩) ls.length lc/\σ 4= Jx JT i/\σ 5= Jx JT j/\j<=x.2.1.2.1.length/\ ∃u',jD S0 u h u' h'/\lm h.size u' h' (σ 3) ((x.2.1.2.1.take j).foldl kV (jF (ls.take i)))
   refine jE J (λj=>x.2.1.2.1.length - j) 0 (by rw[hJ];exact⟨by simp [jI,e0],by simp [jI,e4],zJ,aj _,u',st,by simpa [jI]using ho⟩) ?_
   clear ho st hpr p0 p1 p2 hpz hpu hpb hpv e0 e4
   intro j σ1 h1 hy
   rw[hJ]at hy
   obtain⟨e0,e4,e5,hj,u1,st,ho⟩:=hy
   obtain⟨pb',po',hpe,hpb,hpu,hpz,hpr⟩:=(hl.mono st.ge).row i x hs
   cases hpe
   rw[kP]at hpr
   obtain⟨pv,hpr,hpv⟩:=hpr
   obtain⟨pva',pvc',rfl,r1,r2⟩:=hpv.sl
   simp only[jM.enc,lJ,pm,aP,aJ,ax,aC]at hpr hpu hpz
   obtain⟨p0,p1,p2,-⟩:=hpr
   have hln:=Mq (j:=j) hs
   by_cases hlt2:j<x.2.1.2.1.length
   ·obtain⟨t,hts⟩: ∃t,x.2.1.2.1[j]? =some t:=⟨x.2.1.2.1[j],by simp [hlt2]⟩
    obtain⟨tb,to,rfl,htb,htu,htz,htr⟩:=hpv.row j t hts
    rw[ko]at htr
    simp only[jM.enc,lG,mQ,ax,aC]at htr htu htz
    obtain⟨t0,t1,t2,t3⟩:=htr
    have hsn:=pI (f:=kV) (b:=jF (ls.take i)) hts
    obtain⟨va,vc,hva,-,-⟩:=ho.sl
    have hne: ∀b,jL (σ1 3) b->b<h1.size:=λb hb=>ho.lt hb
    have skip: ∀σ' u' h',σ' 0=σ1 0->σ' 4=σ1 4->σ' 3=σ1 3->σ' 5= Jx JT ((j:Int)+1)->jD S0 u1 h1 u' h'->kV ((x.2.1.2.1.take j).foldl kV (jF (ls.take i))) t=(x.2.1.2.1.take j).foldl kV (jF (ls.take i))-> ∃y,J y σ' h'/\x.2.1.2.1.length - y<x.2.1.2.1.length - j:=λσ' u' h' g0 g4 g3 g5 sx gv=>by
     refine⟨j+1,?_,zO⟩
     rw[hJ]
     refine⟨by rw[g0,e0],by rw[g4,e4],g5,hlt2,u',st.tZ sx,?_⟩
     rw[hsn,gv,g3]
     exact ho.sZ sx
    by_cases hk4:t.1=4
    ·have app: ∀(σ':ku) (u':U) (h':H) (p k:Nat) (r:List St) (Q:ku->H->Prop) (KP':List PanicEntry->H->Prop),jD S0 u1 h1 u' h'->p=h'.size->((x.2.1.2.1.take j).foldl kV (jF (ls.take i))).length<=1048576->
       (∀a n c u3 h3,lm h.size u3 h3 (.slice a n c) ((x.2.1.2.1.take j).foldl kV (jF (ls.take i))++[t.2.2.1])->jD S0 u h u3 h3->kT JJ r Q KP' (nD σ' (some k) (.slice a n c)) h3)->
       nZ JJ (.app 9 1 16 [str []]) (some k) [] r Q KP' [σ1 3,.slice (some ⟨p,0,none⟩) 1 1] σ' (h'.push (.cells #[str t.2.2.1] 9)):=λσ' u' h' p k r Q KP' sx hp hb hq=>by
      have hos:=ho.sZ sx
      refine yC hp hos (x:=t.2.2.1) (by rw[mE]) rfl rfl (aT st.ge.sz sx.ge.sz) zO λa n c u3 h3 ho3 s3=>⟨by simp only[rE],hq a n c u3 h3 ho3 ?_⟩
      exact(st.tZ sx).trans s3 (λb hb hB=>by have:=hos.ge hB;omega)
     by_cases h95:t.2.2.1=[95]
     ·have hv:kV ((x.2.1.2.1.take j).foldl kV (jF (ls.take i))) t=(x.2.1.2.1.take j).foldl kV (jF (ls.take i))++[t.2.2.1]:=by unfold kV;rw[ah ⟨hk4,.inl h95⟩]
      simp(disch:=omega) only[↓reduceIte,go_sem,e0,e4,e5,p2,hlt,hlt2,t0,t1,t2,t3,ai hk4,ai h95]
      refine app _ _ _ _ _ _ _ _ zT (by simp only[kw]) zO λa n c u3 h3 ho3 st3=> ?_
      simp(disch:=omega) only[↓reduceIte,go_sem,e5]
      refine⟨j+1,?_,zO⟩
      rw[hJ]
      refine⟨by simp [jI,e0],by simp [jI,e4],zJ,hlt2,u3,st3,?_⟩
      rw[hsn,hv]
      simpa [jI]using ho3
     ·have hos:=fun(u':U) (h':H) (sx:jD S0 u1 h1 u' h')=>(ho.sZ sx).iZ
      by_cases hin:t.2.2.1∈(x.2.1.2.1.take j).foldl kV (jF (ls.take i))
      ·have hv:kV ((x.2.1.2.1.take j).foldl kV (jF (ls.take i))) t=(x.2.1.2.1.take j).foldl kV (jF (ls.take i)):=by
        unfold kV;rw[af];rintro ⟨-,h|h⟩
        ·exact h95 h
        ·exact h hin
       simp(disch:=omega) only[↓reduceIte,go_sem,e0,e4,e5,p2,hlt,hlt2,t0,t1,t2,t3,ai hk4,ae h95]
       refine jC ⟨rfl,_,_,_,_,rfl,hos _ _ zT,λk hk'=>⟨jO,?_⟩⟩
       have hk0: ¬k<0:=λh=>hk'.1 h hin
       simp(disch:=omega) only[↓reduceIte,go_sem,e5,ae hk0]
       exact skip _ _ _ zJ zJ zJ zJ zT hv
      ·have hv:kV ((x.2.1.2.1.take j).foldl kV (jF (ls.take i))) t=(x.2.1.2.1.take j).foldl kV (jF (ls.take i))++[t.2.2.1]:=by unfold kV;rw[ah ⟨hk4,.inr hin⟩]
       simp(disch:=omega) only[↓reduceIte,go_sem,e0,e4,e5,p2,hlt,hlt2,t0,t1,t2,t3,ai hk4,ae h95]
       refine jC ⟨rfl,_,_,_,_,rfl,hos _ _ zT,λk hk'=>⟨jO,?_⟩⟩
       have hk0:k<0:=hk'.2 hin
       simp(disch:=omega) only[↓reduceIte,go_sem,ai hk0]
       refine app _ _ _ _ _ _ _ _ zT (by simp only[kw]) zO λa n c u3 h3 ho3 st3=> ?_
       simp(disch:=omega) only[↓reduceIte,go_sem,e5]
       refine⟨j+1,?_,zO⟩
       rw[hJ]
       refine⟨by simp [jI,e0],by simp [jI,e4],zJ,hlt2,u3,st3,?_⟩
       rw[hsn,hv]
       simpa [jI]using ho3
    ·have hv:kV ((x.2.1.2.1.take j).foldl kV (jF (ls.take i))) t=(x.2.1.2.1.take j).foldl kV (jF (ls.take i)):=by unfold kV;rw[af (λh=>hk4 h.1)]
     by_cases h95:t.2.2.1=[95]
     ·simp(disch:=omega) only[↓reduceIte,go_sem,e0,e4,e5,p2,hlt,hlt2,t0,t1,t2,t3,ae hk4,ai h95]
      exact skip _ _ _ zJ zJ zJ zJ zT hv
     ·simp(disch:=omega) only[↓reduceIte,go_sem,e0,e4,e5,p2,hlt,hlt2,t0,t1,t2,t3,ae hk4,ae h95]
      exact skip _ _ _ zJ zJ zJ zJ zT hv
   ·obtain rfl:j=x.2.1.2.1.length:=zO
    rw[aK]at ho
    simp(disch:=omega) only[↓reduceIte,go_sem,e0,e4,e5,p2,hlt]
    refine⟨i+1,?_,zO⟩
    rw[hI]
    refine⟨by simp [jI,e0],zJ,hlt,u1,st,?_⟩
    have e:jF (ls.take (i+1))=x.2.1.2.1.foldl kV (jF (ls.take i)):=by unfold jF;rw[pI hs];unfold tu;rw[ah hk]
    rw[e]
    simpa [jI]using ho
  ·simp(disch:=omega) only[↓reduceIte,go_sem,e0,e4,hlt,p0,ae hk]
   refine⟨i+1,?_,zO⟩
   rw[hI]
   refine⟨by simp [jI,e0],zJ,hlt,u',st,?_⟩
   have e:jF (ls.take (i+1))=jF (ls.take i):=by unfold jF;rw[pI hs];unfold tu;rw[af hk]
   rw[e]
   simpa [jI]using ho
 ·obtain rfl:i=ls.length:=zO
  rw[aK]at ho
  simp only[↓reduceIte,go_sem,e0,e4]
  exact hK _ _ _ st ho.iZ
end Go.Proofs.Z
namespace Go.Proofs.Z
open Go Go.Ev Edict
variable {vs:List Value} {h:H} {K:Value->H->Prop} {KP:List PanicEntry->H->Prop}
def Sa(vs:List Value)(h:H)(K:Value->H->Prop):Prop:= ∃(u:U) (b:Nat) (m:List UInt8->Option Int) (n:Nat) (s:List UInt8),vs=[.map (some b),str s]/\oI h b m n/\n<=4611686018427387904/\
 (∀v,m s=some v->K (.tuple #[Jx JT v,.bool false]) h)/\(m s=none-> ∀h',jD (λi=>i=b) u h u h'->oI h' b (zt m s n) (n+1)->K (.tuple #[Jx JT n,.bool true]) h')
theorem Sb(hC:Sa vs h K):kN Tryz.prog 68 vs h K KP:=by
 obtain⟨u,b,m,n,s,rfl,hm,hn,h1,h2⟩:=hC
 refine jJ 16627 [(none,(.t 4)),(none,(.t 5))] (G:=(λ_ _ _ _ _=>False)) (λ_ _ _ _ _ h=>h.elim) Tryz.func68 ?_
 simp only[↓reduceIte,go_sem]
 refine oz hm ⟨jO,?_⟩
 cases hs:m s with
 |some v=>
  simp only[mr,bv,dM,bZ]
  simp(disch:=omega) only[↓reduceIte,go_sem,jN]
  exact h1 v hs
 |none=>
  simp only[mr,bv,cZ,dR]
  simp(disch:=omega) only[↓reduceIte,go_sem,jN]
  refine AY hm ⟨jO,?_⟩
  simp only[↓reduceIte,go_sem,jN]
  refine xG u hm λh' st hm'=>⟨jO,?_⟩
  rw[hs]at hm'
  simp only[cZ,aD,aW]at hm'
  simp only[↓reduceIte,go_sem,jN]
  refine AY hm' ⟨jO,?_⟩
  simp(disch:=omega) only[↓reduceIte,go_sem,jN]
  have e:((n+1:Nat):Int) - 1=n:=zO
  rw[e]
  exact h2 hs h' st hm'
def adH:lq:=λf vs h K _=>f=68/\Sa vs h K
theorem AF:lQ Tryz.prog adH:=by
 rintro f vs h K KP ⟨rfl,hC⟩;exact Sb hC
def VM(h0:H)(u0 u:U)(h:H)(v:Value)(vs:lN):Prop:= ∃m n,jD S0 u0 h0 u h/\oI h h0.size m n/\n<=vs.length/\(∀s,(m s).isSome=true↔s∈vs)/\lm (h0.size+1) u h v vs
theorem Mo(hC:JI vs h K):kN Tryz.prog 73 vs h K KP:=by
 obtain⟨u,v,ls,rfl,hl,hbk,hK⟩:=hC
 obtain⟨la,lc,rfl,q1,q2⟩:=hl.sl
 have hm:=lC
 refine jJ 17594460468573 [(none,(.t 2))] AF Tryz.func73 ?_
 simp only[go_sem]
 refine xF u λu0 h0 s0 hm0=>⟨jO,?_⟩
 simp only[↓reduceIte,go_sem,jN]
 obtain⟨I,hI⟩:=kg (α:=Nat->ku->H->Prop) λi σ h'=>σ 4= .map (some h.size)/\σ 12= .slice la ls.length lc/\σ 13= Jx JT ls.length/\σ 14= Jx JT i/\i<=ls.length/\ ∃u',VM h u u' h' (σ 3) (jF (ls.take i))
 refine jE I (λi=>ls.length - i) 0 (by
  rw[hI]
  exact⟨zJ,zJ,zJ,zJ,aj _,u0,_,0,s0,hm0,aj _,λs=>by simp [jF],by simp only[jI];exact .nil _ _ _⟩) ?_
 intro i σ h' hy
 rw[hI]at hy
 obtain⟨e4,e12,e13,e14,hi,u',hvm⟩:=hy
 by_cases hlt:i<ls.length
 ·obtain⟨x,hs⟩:=qP hlt
  obtain⟨m,n,st,hmb,hn,hms,ho⟩:=hvm
  obtain⟨pb,po,rfl,hpb,hpu,hpz,hpr⟩:=(hl.mono st.ge).row i x hs
  rw[kP]at hpr
  obtain⟨pv,hpr,hpv⟩:=hpr
  obtain⟨pva,pvc,rfl,r1,r2⟩:=hpv.sl
  simp only[jM.enc,lJ,pm,aP,aJ,ax,aC]at hpr hpu hpz
  obtain⟨p0,p1,p2,p3,p4,p5,p6,p7,p8,p9,p10,p11,p12,p13⟩:=hpr
  by_cases hk:x.1=1
  ·simp(disch:=omega) only[↓reduceIte,go_sem,e12,e13,e14,hlt,p0,p1,p2,p3,p4,p5,p6,p7,p8,p9,p10,p11,p12,p13,ai hk]
   have sp:jD S0 u' h' _ _:=jD.qZ S0 u' h' #[Jx JT x.1,str x.2.1.1,.slice pva x.2.1.2.1.length pvc,Jx JT x.2.1.2.2,Jx JT x.2.2.1,Jx JT x.2.2.2.1.1,Jx JT x.2.2.2.1.2.1,str x.2.2.2.1.2.2.1,Jx JT x.2.2.2.1.2.2.2,Jx JT x.2.2.2.2.1.1,Jx JT x.2.2.2.2.1.2.1,str x.2.2.2.2.1.2.2.1,Jx JT x.2.2.2.2.1.2.2.2,Jx JT x.2.2.2.2.2] 141
   obtain⟨J,hJ⟩:=kg (α:=Nat->ku->H->Prop) λj σ h'=>σ 4= .map (some h.size)/\σ 12= .slice (some ⟨pb,po,none⟩) ls.length lc/\σ 13= Jx JT ls.length/\σ 14= Jx JT i/\σ 23= .slice pva x.2.1.2.1.length pvc/\σ 24= Jx JT x.2.1.2.1.length/\σ 25= Jx JT j/\j<=x.2.1.2.1.length/\
     ∃u',jS u' h' (.slice pva x.2.1.2.1.length pvc) x.2.1.2.1/\VM h u u' h' (σ 3) ((x.2.1.2.1.take j).foldl kV (jF (ls.take i)))
   refine jE J (λj=>x.2.1.2.1.length - j) 0 (by
    rw[hJ]
    exact⟨by simp [jI,e4],by simp [jI,e12],by simp [jI,e13],by simp [jI,e14],zJ,zJ,zJ,aj _,_,hpv.mono sp.ge,m,n,st.tZ sp,hmb.step sp (λh=>h),hn,hms,by simpa [jI]using ho.sZ sp⟩) ?_
   clear ho st hmb hn hms hpv p0 p1 p2 p3 p4 p5 p6 p7 p8 p9 p10 p11 p12 p13 hpz hpu hpb e4 e12 e13 e14 sp
   intro j σ1 h1 hy
   rw[hJ]at hy
   obtain⟨e4,e12,e13,e14,e23,e24,e25,hj,u1,hpv,m,n,st,hmb,hn,hms,ho⟩:=hy
   have hln:=Mq (j:=j) hs
   by_cases hlt2:j<x.2.1.2.1.length
   ·obtain⟨t,hts⟩: ∃t,x.2.1.2.1[j]? =some t:=⟨x.2.1.2.1[j],by simp [hlt2]⟩
    obtain⟨tb,to,rfl,htb,htu,htz,htr⟩:=hpv.row j t hts
    rw[ko]at htr
    simp only[jM.enc,lG,mQ,ax,aC]at htr htu htz
    obtain⟨t0,t1,t2,t3⟩:=htr
    have hsn:=pI (f:=kV) (b:=jF (ls.take i)) hts
    obtain⟨vs0,hvs0⟩:=kg ((x.2.1.2.1.take j).foldl kV (jF (ls.take i)))
    rw[<-hvs0]at hsn hln ho hn hms
    have hml:=hmb.lt
    have next: ∀(σ':ku) (u':U) (h':H) (S:Nat->Prop) (m':List UInt8->Option Int) (n':Nat),σ' 4=σ1 4->σ' 12=σ1 12->σ' 13=σ1 13->σ' 14=σ1 14->σ' 23=σ1 23->σ' 24=σ1 24->σ' 25= Jx JT ((j:Int)+1)->jD S u1 h1 u' h'->(∀i,S i->h.size<=i)->
      oI h' h.size m' n'->n'<=(kV vs0 t).length->(∀s,(m' s).isSome=true↔s∈kV vs0 t)->lm (h.size+1) u' h' (σ' 3) (kV vs0 t)-> ∃y,J y σ' h'/\x.2.1.2.1.length - y<x.2.1.2.1.length - j:=λσ' u' h' S m' n' g4 g12 g13 g14 g23 g24 g25 sx hS hm' hn' hms' ho'=>by
     refine⟨j+1,?_,zO⟩
     rw[hJ]
     refine⟨by rw[g4,e4],by rw[g12,e12],by rw[g13,e13],by rw[g14,e14],by rw[g23,e23],by rw[g24,e24],g25,hlt2,u',hpv.mono sx.ge,m',n',st.trans sx (λb hb hB=>by have:=hS b hB;omega),hm',by rw[hsn];exact hn',by rw[hsn];exact hms',by rw[hsn];exact ho'⟩
    have sp:=jD.qZ S0 u1 h1 #[Jx JT t.1,Jx JT t.2.1,str t.2.2.1,Jx JT t.2.2.2] 74
    by_cases hk4:t.1=4
    ·simp(disch:=omega) only[↓reduceIte,go_sem,e4,e23,e24,e25,hlt2,t0,t1,t2,t3,ai hk4]
     have bT:jR (ub u1 h1.size 0) (h1.push (.cells #[Jx JT t.1,Jx JT t.2.1,str t.2.2.1,Jx JT t.2.2.2] 74)) h1.size [Jx JT t.1,Jx JT t.2.1,str t.2.2.1,Jx JT t.2.2.2]:=(jR.mk zY zE zE (by repeat (first|(refine lU ?_;simp only[];done)|apply kG)) zE)
     have hos:=ho.sZ sp
     have hmp:=hmb.step sp (λh=>h)
     refine jC ⟨rfl,ub u1 h1.size 0,h.size,m,n,t.2.2.1,rfl,hmp,zO,λv hv=>⟨jO,?_⟩,λhv h2 s2 hm2=>⟨jO,?_⟩⟩
     ·have hin:t.2.2.1∈vs0:=(hms _).1 (by rw[hv];rfl)
      by_cases h95:t.2.2.1=[95]
      ·have hvt:kV vs0 t=vs0++[t.2.2.1]:=by unfold kV;rw[ah ⟨hk4,.inl h95⟩]
       simp(disch:=first|omega|simp only[zz];try omega;done) only[↓reduceIte,go_sem,bT.at,bT.2.1,ai h95]
       refine yC (by simp only[kw]) hos (x:=t.2.2.1) (by rw[mE]) rfl rfl zY zO λa' n' c' u3 h3 ho3 s3=>⟨jO,?_⟩
       have hne: ∀b,jL (σ1 3) b->h.size+1<=b:=λb hb=>hos.ge hb
       simp(disch:=omega) only[↓reduceIte,go_sem,e25]
       refine next _ u3 h3 (jL (σ1 3)) m n zJ zJ zJ zJ zJ zJ zJ ((sp.mono (λ_ _ h=>h.elim)).trans s3 (λ_ _ h=>h)) (λb hB=>by have:=hne b hB;omega) (hmp.step s3 (λhB=>by have:=hne _ hB;omega)) (by rw[hvt];simp;omega) (λs=> ?_) (by rw[hvt];simpa [jI]using ho3)
       rw[hms,hvt,aV,aY]
       exact⟨.inl,λh=>h.elim id (λh=>h▸hin)⟩
      ·have hvt:kV vs0 t=vs0:=by
        unfold kV;rw[af];rintro ⟨-,h|h⟩
        ·exact h95 h
        ·exact h hin
       simp(disch:=first|omega|simp only[zz];try omega;done) only[↓reduceIte,go_sem,e25,bT.at,bT.2.1,ae h95]
       exact next _ _ _ S0 m n zJ zJ zJ zJ zJ zJ zJ sp (λ_ h=>h.elim) hmp (by rw[hvt];exact hn) (by rw[hvt];exact hms) (by rw[hvt];simpa [jI]using hos)
     ·have hin:t.2.2.1 ∉ vs0:=λh=>by have:=(hms _).2 h;rw[hv]at this;cases this
      have hvt:kV vs0 t=vs0++[t.2.2.1]:=by unfold kV;rw[ah ⟨hk4,.inr hin⟩]
      have Tx:=bT.step s2 zO
      have hos2:=hos.step s2 (λb hB e=>by have:=hos.ge hB;omega)
      have hl2:h.size+1<=h2.size:=by have:=s2.ge.sz;simp only[kw]at this;omega
      simp(disch:=first|omega|simp only[zz];try omega;done) only[↓reduceIte,go_sem,Tx.at,Tx.2.1]
      refine lM hos2 (x:=t.2.2.1) (by rw[mE]) rfl rfl hl2 zO λa' n' c' u3 h3 ho3 s3=>⟨jO,?_⟩
      have hne: ∀b,jL (σ1 3) b->h.size+1<=b:=λb hb=>hos2.ge hb
      simp(disch:=omega) only[↓reduceIte,go_sem,e25]
      have sall:jD (λb=>h.size<=b) u1 h1 u3 h3:=((sp.mono (S':=λb=>h.size<=b) (λ_ _ h=>h.elim)).trans s2 (λb _ e=>zO)).trans s3 (λb _ hB=>by have:=hne b hB;omega)
      refine next _ u3 h3 (λb=>h.size<=b) (zt m t.2.2.1 n) (n+1) zJ zJ zJ zJ zJ zJ zJ sall (λb h=>h) (hm2.step s3 (λhB=>by have:=hne _ hB;omega)) (by rw[hvt];simp;omega) (λs=> ?_) (by rw[hvt];simpa [jI]using ho3)
      rw[hvt,aV,aY]
      unfold zt
      by_cases hst:s=t.2.2.1
      ·rw[ah hst];exact⟨λ_=> .inr hst,λ_=>rfl⟩
      ·rw[af hst,hms];exact⟨.inl,λh=>h.elim id (λh=>absurd h hst)⟩
    ·have hvt:kV vs0 t=vs0:=by unfold kV;rw[af (λh=>hk4 h.1)]
     simp(disch:=omega) only[↓reduceIte,go_sem,e23,e24,e25,hlt2,t0,t1,t2,t3,ae hk4]
     exact next _ _ _ S0 m n zJ zJ zJ zJ zJ zJ zJ sp (λ_ h=>h.elim) (hmb.step sp (λh=>h)) (by rw[hvt];exact hn) (by rw[hvt];exact hms) (by rw[hvt];simpa [jI]using ho.sZ sp)
   ·obtain rfl:j=x.2.1.2.1.length:=zO
    rw[aK]at ho hn hms
    simp(disch:=omega) only[↓reduceIte,go_sem,e14,e24,e25]
    have e:jF (ls.take (i+1))=x.2.1.2.1.foldl kV (jF (ls.take i)):=by unfold jF;rw[pI hs];unfold tu;rw[ah hk]
    refine⟨i+1,?_,zO⟩
    rw[hI]
    exact⟨by simp [jI,e4],by simp [jI,e12],by simp [jI,e13],zJ,hlt,u1,m,n,st,hmb,by rw[e];exact hn,by rw[e];exact hms,by rw[e];simpa [jI]using ho⟩
  ·simp(disch:=omega) only[↓reduceIte,go_sem,e12,e13,e14,hlt,p0,p1,p2,p3,p4,p5,p6,p7,p8,p9,p10,p11,p12,p13,ae hk]
   have e:jF (ls.take (i+1))=jF (ls.take i):=by unfold jF;rw[pI hs];unfold tu;rw[af hk]
   have sp:=jD.qZ S0 u' h' #[Jx JT x.1,str x.2.1.1,.slice pva x.2.1.2.1.length pvc,Jx JT x.2.1.2.2,Jx JT x.2.2.1,Jx JT x.2.2.2.1.1,Jx JT x.2.2.2.1.2.1,str x.2.2.2.1.2.2.1,Jx JT x.2.2.2.1.2.2.2,Jx JT x.2.2.2.2.1.1,Jx JT x.2.2.2.2.1.2.1,str x.2.2.2.2.1.2.2.1,Jx JT x.2.2.2.2.1.2.2.2,Jx JT x.2.2.2.2.2] 141
   refine⟨i+1,?_,zO⟩
   rw[hI]
   exact⟨by simp [jI,e4],by simp [jI,e12],by simp [jI,e13],zJ,hlt,_,m,n,st.tZ sp,hmb.step sp (λh=>h),by rw[e];exact hn,by rw[e];exact hms,by rw[e];simpa [jI]using ho.sZ sp⟩
 ·obtain rfl:i=ls.length:=zO
  obtain⟨m,n,st,hmb,hn,hms,ho⟩:=hvm
  rw[aK]at ho
  simp only[↓reduceIte,go_sem,e13,e14]
  exact hK _ _ _ st ho.iZ
end Go.Proofs.Z
namespace Edict
variable {α β:Type} {f:α->List β} {i:Nat} {l:List α} {x:α}
def sW(l:jZ):List jM:=l.2.1.2.1
def kQ(l:jZ):List jM:=if l.1=1\/l.1=2 then sW l else if l.1=3 then [l.2.2.2.1,l.2.2.2.2.1]else []
def tq(l:jZ):List jM:=if l.1=2 then sW l else if l.1=3 then [l.2.2.2.1,l.2.2.2.2.1]else []
def uj(ls:List jZ):List jZ:=ls.filter λl=>decide (l.1≠1)
theorem RZ: ∀ls:List jZ,(uj ls).flatMap kQ=ls.flatMap tq
 |[]=>rfl
 |x::l=>by
  have h:=RZ l
  unfold uj at h ⊢
  by_cases h1:x.1=1
  ·rw[iQ (by simp [h1]),h,dD]
   have:tq x=[]:=by unfold tq;rw[af zO,af zO]
   rw[this,aJ]
  ·rw[iR (by simp [h1]),dD,dD,h]
   have:kQ x=tq x:=by
    unfold kQ tq
    by_cases h2:x.1=2
    ·rw[ah (.inr h2),ah h2]
    ·rw[af zO,af h2]
   rw[this]
open Go.Ev in
theorem adE(x:jZ):(sW x).length+4<=Rep.bulk x:=by
 have h2:=pq x.2.1.2.1
 have h3:Rep.bulk x=1+((x.2.1.1.length+1+(bulkL x.2.1.2.1+1))+(1+(Rep.bulk x.2.2.2.1+(Rep.bulk x.2.2.2.2.1+1)))):=rfl
 unfold sW;omega
open Go.Ev in
theorem BG{f:jZ->List jM}(hf: ∀x,(f x).length<=(sW x).length+2): ∀ls:List jZ,(ls.flatMap f).length<=bulkL ls
 |[]=>aj _
 |x::l=>by
  have h1:=BG hf l
  have h2:=hf x
  have h3:=adE x
  simp only[dD,ay,bulkL];omega
theorem JG(x:jZ):(kQ x).length<=(sW x).length+2:=by unfold kQ;split;omega;split<;>simp
theorem adF(x:jZ):(tq x).length<=(sW x).length+2:=by unfold tq;split;omega;split<;>simp
theorem uk(h:l[i]? =some x):(l.take (i+1)).flatMap f=(l.take i).flatMap f++f x:=by
 rw[aX,h,bC,jv];simp
theorem Ol(h:l[i]? =some x):((l.take i).flatMap f).length+(f x).length<=(l.flatMap f).length:=by
 have e:l.flatMap f=(l.take (i+1)).flatMap f++(l.drop (i+1)).flatMap f:=by rw[<-jv,bV]
 rw[e,uk h];simp only[ay];omega
open Go.Ev in
theorem FO{α:Type} [Rep α]{p:α->Bool}: ∀l:List α,bulkL (l.filter p)<=bulkL l
 |[]=>ak _
 |x::l=>by
  have:=FO (p:=p) l
  by_cases h:p x=true
  ·rw[iR h];simp only[bulkL];omega
  ·rw[iQ h];simp only[bulkL];omega
def kF(vs:lN)(t:jM):Bool:=decide (t.1=4) && (decide (t.2.2.1=[95]) || decide (t.2.2.1 ∉ vs))
def yS(vs:lN):List jM->Nat->Int
 |[],_=> -1
 |t::l,i=>if kF vs t then i else yS vs l (i+1)
def Ml(vs:lN):List jM->Int
 |[]=> -1
 |t::l=>if kF vs t then t.2.2.2 else Ml vs l
theorem AA{vs:lN}: ∀{l:List jM} {k:Nat},(∀t∈l,kF vs t=false)->yS vs l k= -1/\Ml vs l= -1
 |[],_,_=>⟨rfl,rfl⟩
 |t::l,k,h=>by
  have h0:=h t (bu ..)
  simp only[yS,Ml,h0]
  exact AA (λt ht=>h t (bg _ ht))
theorem AB{vs:lN}: ∀{l:List jM} {i k:Nat} {t:jM},(∀s∈l.take i,kF vs s=false)->l[i]? =some t->kF vs t=true->yS vs l k=k+i/\Ml vs l=t.2.2.2
 |[],i,_,_,_,h,_=>by simp at h
 |s::l,0,k,t,_,h,hb=>by cases h;simp [yS,Ml,hb]
 |s::l,i+1,k,t,h,h1,hb=>by
  have h0:kF vs s=false:=h s zP
  have hr:=AB (l:=l) (i:=i) (k:=k+1) (t:=t) (λs hs=>h s (by simp only[dY];exact bg _ hs)) (by simpa using h1) hb
  simp only[yS,Ml,h0]
  refine⟨?_,hr.2⟩
  have:=hr.1
  simp only[aD,aW]
  rw[this];omega
def oU(c:jY):List jM:=c.1.2.1++c.2.flatMap tq
theorem Mm{vs:lN}{l:List jM}{t:jM}(h: ∀s∈l.take i,kF vs s=false)(hs:l[i]? =some t)(hb:kF vs t=false): ∀s∈l.take (i+1),kF vs s=false:=by
 intro s h1
 rw[aX,hs,bC,aV,aY]at h1
 rcases h1 with h1|rfl
 ·exact h s h1
 ·exact hb
end Edict
namespace Go.Proofs.Z
open Go Go.Ev Edict
variable {vs:List Value} {h:H} {K:Value->H->Prop} {KP:List PanicEntry->H->Prop}
def AC{α:Type} [Rep α](f:List jZ->List α)(vs:List Value)(h:H)(K:Value->H->Prop):Prop:= ∃(u:U) (v:Value) (ls:List jZ),vs=[v]/\jS u h v ls/\bulkL ls<=1048576/\ ∀u' h' w,jD S0 u h u' h'->jS u' h' w (f ls)->K w h'
theorem VY(hC:AC (λls=>ls.flatMap kQ) vs h K):kN Tryz.prog 71 vs h K KP:=by
 obtain⟨u,v,ls,rfl,hl,hbk,hK⟩:=hC
 obtain⟨la,lc,rfl,q1,q2⟩:=hl.sl
 have hm:=lC
 have hfb:=BG JG ls
 refine jJ 4219885 [(none,(.t 2))] (G:=(λ_ _ _ _ _=>False)) (λ_ _ _ _ _ h=>h.elim) Tryz.func71 ?_
 simp only[↓reduceIte,go_sem]
 obtain⟨I,hI⟩:=kg (α:=Nat->ku->H->Prop) λi σ h'=>σ 6= .slice la ls.length lc/\σ 7= Jx JT ls.length/\σ 8= Jx JT i/\i<=ls.length/\ ∃u',jD S0 u h u' h'/\lm h.size u' h' (σ 3) ((ls.take i).flatMap kQ)
 refine jE I (λi=>ls.length - i) 0 (by rw[hI];exact⟨zJ,zJ,zJ,aj _,u,.refl _ _ _,by simp only[jI];exact .nil _ _ _⟩) ?_
 intro i σ h' hy
 rw[hI]at hy
 obtain⟨e6,e7,e8,hi,u',st,ho⟩:=hy
 by_cases hlt:i<ls.length
 ·skip
  obtain⟨x,hs⟩:=qP hlt
  obtain⟨pb,po,rfl,hpb,hpu,hpz,hpr⟩:=(hl.mono st.ge).row i x hs
  have hprs:=hpr
  rw[kP]at hpr
  obtain⟨pv,hpr,hpv⟩:=hpr
  obtain⟨pva,pvc,rfl,r1,r2⟩:=hpv.sl
  have hcs:qV h' pb (po+i*Rep.sz jZ) (Rep.sz jZ)= #[Jx JT x.1,str x.2.1.1,.slice pva x.2.1.2.1.length pvc,Jx JT x.2.1.2.2,Jx JT x.2.2.1,Jx JT x.2.2.2.1.1,Jx JT x.2.2.2.1.2.1,str x.2.2.2.1.2.2.1,Jx JT x.2.2.2.1.2.2.2,Jx JT x.2.2.2.2.1.1,Jx JT x.2.2.2.2.1.2.1,str x.2.2.2.2.1.2.2.1,Jx JT x.2.2.2.2.1.2.2.2,Jx JT x.2.2.2.2.2].toList:=by rw[hpr];rfl
  rw[hcs]at hprs
  simp only[jM.enc,lJ,pm,aP,aJ,ax,aC]at hpr hpu hpz
  obtain⟨p0,p1,p2,p3,p4,p5,p6,p7,p8,p9,p10,p11,p12,p13⟩:=hpr
  have sp:=jD.qZ S0 u' h' #[Jx JT x.1,str x.2.1.1,.slice pva x.2.1.2.1.length pvc,Jx JT x.2.1.2.2,Jx JT x.2.2.1,Jx JT x.2.2.2.1.1,Jx JT x.2.2.2.1.2.1,str x.2.2.2.1.2.2.1,Jx JT x.2.2.2.1.2.2.2,Jx JT x.2.2.2.2.1.1,Jx JT x.2.2.2.2.1.2.1,str x.2.2.2.2.1.2.2.1,Jx JT x.2.2.2.2.1.2.2.2,Jx JT x.2.2.2.2.2] 141
  have hos:=ho.sZ sp
  have hfl:=Ol (f:=kQ) hs
  have hsn:=uk (f:=kQ) hs
  have hk0:h.size<=h'.size:=st.ge.sz
  have next: ∀(σ':ku) (u':U) (h1:H),σ' 6=σ 6->σ' 7=σ 7->σ' 8= Jx JT ((i:Int)+1)->jD S0 u h u' h1->lm h.size u' h1 (σ' 3) ((ls.take i).flatMap kQ++kQ x)-> ∃y,I y σ' h1/\ls.length - y<ls.length - i:=λσ' u' h1 g6 g7 g8 sx ho'=>by
   refine⟨i+1,?_,zO⟩
   rw[hI]
   exact⟨by rw[g6,e6],by rw[g7,e7],g8,hlt,u',sx,by rw[hsn];exact ho'⟩
  have hne: ∀b,jL (σ 3) b->h.size<=b:=λb hb=>ho.ge hb
  by_cases hk:x.1=1\/x.1=2
  ·have htl:kQ x=x.2.1.2.1:=by unfold kQ;rw[ah hk];rfl
   rw[htl]at hfl next
   have fin: ∀(r:List St) (Q:ku->H->Prop) (KP':List PanicEntry->H->Prop) (σ':ku),(∀a n c u3 h3,lm h.size u3 h3 (.slice a n c) ((ls.take i).flatMap kQ++x.2.1.2.1)->jD S0 u h u3 h3->kT (λ_ _ _ _ _=>False) r Q KP' (nD σ' (some 21) (.slice a n c)) h3)->
     nZ (λ_ _ _ _ _=>False) (.app 74 4 40 [Jx JT 0,Jx JT 0,str [],Jx JT 0]) (some 21) [] r Q KP' [σ 3,.slice pva x.2.1.2.1.length pvc] σ' (h'.push (.cells #[Jx JT x.1,str x.2.1.1,.slice pva x.2.1.2.1.length pvc,Jx JT x.2.1.2.2,Jx JT x.2.2.1,Jx JT x.2.2.2.1.1,Jx JT x.2.2.2.1.2.1,str x.2.2.2.1.2.2.1,Jx JT x.2.2.2.1.2.2.2,Jx JT x.2.2.2.2.1.1,Jx JT x.2.2.2.2.1.2.1,str x.2.2.2.2.1.2.2.1,Jx JT x.2.2.2.2.1.2.2.2,Jx JT x.2.2.2.2.2] 141)):=λr Q KP' σ' hq=>
    lV hos (hpv.mono sp.ge) rfl rfl zY zO λa n c u3 h3 ho3 s3=>⟨by simp only[rE],hq a n c u3 h3 ho3 ((st.tZ sp).trans s3 (λb hb hB=>by have:=hne b hB;omega))⟩
   rcases hk with hk|hk
   ·simp(disch:=omega) only[↓reduceIte,go_sem,e6,e7,e8,hlt,p0,p1,p2,p3,p4,p5,p6,p7,p8,p9,p10,p11,p12,p13,ai hk]
    refine fin _ _ _ _ λa n c u3 h3 ho3 st3=> ?_
    simp(disch:=omega) only[↓reduceIte,go_sem,e8]
    exact next _ u3 h3 zJ zJ zJ st3 (by simpa [jI]using ho3)
   ·simp(disch:=omega) only[↓reduceIte,go_sem,e6,e7,e8,hlt,p0,p1,p2,p3,p4,p5,p6,p7,p8,p9,p10,p11,p12,p13,ai hk,ae (show¬x.1=1 by omega)]
    refine fin _ _ _ _ λa n c u3 h3 ho3 st3=> ?_
    simp(disch:=omega) only[↓reduceIte,go_sem,e8]
    exact next _ u3 h3 zJ zJ zJ st3 (by simpa [jI]using ho3)
  by_cases hk3:x.1=3
  ·have htl:kQ x=[x.2.2.2.1,x.2.2.2.2.1]:=by unfold kQ;rw[af hk,ah hk3]
   rw[htl]at hfl next
   simp only[au,aA]at hfl
   simp(disch:=omega) only[↓reduceIte,go_sem,e6,e7,e8,hlt,p0,p1,p2,p3,p4,p5,p6,p7,p8,p9,p10,p11,p12,p13,ai hk3,ae (show¬x.1=1 by omega),ae (show¬x.1=2 by omega)]
   have hsl:=(lm.made (k:=0) (α:=jM) (ub u' h'.size 0) (h'.push (.cells #[Jx JT x.1,str x.2.1.1,.slice pva x.2.1.2.1.length pvc,Jx JT x.2.1.2.2,Jx JT x.2.2.1,Jx JT x.2.2.2.1.1,Jx JT x.2.2.2.1.2.1,str x.2.2.2.1.2.2.1,Jx JT x.2.2.2.1.2.2.2,Jx JT x.2.2.2.2.1.1,Jx JT x.2.2.2.2.1.2.1,str x.2.2.2.2.1.2.2.1,Jx JT x.2.2.2.2.1.2.2.2,Jx JT x.2.2.2.2.2] 141)) (aj _) 74 [x.2.2.2.1,x.2.2.2.2.1] (jM.enc x.2.2.2.1++jM.enc x.2.2.2.2.1) rfl (by simp only[au,aA];decide) (λi y hx=>by
     match i with
     |0=>cases hx;rw[ko];rfl
     |1=>cases hx;rw[ko];rfl
     |i+2=>simp at hx)).iZ
   have sp2:=jD.push S0 (ub u' h'.size 0) (h'.push (.cells #[Jx JT x.1,str x.2.1.1,.slice pva x.2.1.2.1.length pvc,Jx JT x.2.1.2.2,Jx JT x.2.2.1,Jx JT x.2.2.2.1.1,Jx JT x.2.2.2.1.2.1,str x.2.2.2.1.2.2.1,Jx JT x.2.2.2.1.2.2.2,Jx JT x.2.2.2.2.1.1,Jx JT x.2.2.2.2.1.2.1,str x.2.2.2.2.1.2.2.1,Jx JT x.2.2.2.2.1.2.2.2,Jx JT x.2.2.2.2.2] 141)) (jM.enc x.2.2.2.1++jM.enc x.2.2.2.2.1).toArray 74 (2*4)
   simp only[kw,jM.enc,aP,aJ,au,aA,bJ,Nat.reduceAdd,Nat.reduceMul,lG]at hsl sp2
   refine lV (hos.sZ sp2) hsl rfl rfl zY (by simp only[au,aA];omega) λa n c u3 h3 ho3 s3=>⟨jO,?_⟩
   simp(disch:=omega) only[↓reduceIte,go_sem,e8]
   exact next _ u3 h3 zJ zJ zJ (((st.tZ sp).tZ sp2).trans s3 (λb hb hB=>by have:=hne b hB;omega)) (by simpa [jI]using ho3)
  ·have htl:kQ x=[]:=by unfold kQ;rw[af hk,af hk3]
   rw[htl]at next
   simp(disch:=omega) only[↓reduceIte,go_sem,e6,e7,e8,hlt,p0,p1,p2,p3,p4,p5,p6,p7,p8,p9,p10,p11,p12,p13,ae hk3,ae (show¬x.1=1 by omega),ae (show¬x.1=2 by omega)]
   exact next _ _ _ zJ zJ zJ (st.tZ sp) (by rw[bG];simpa [jI]using hos)
 ·obtain rfl:i=ls.length:=zO
  rw[aK]at ho
  simp only[↓reduceIte,go_sem,e7,e8]
  exact hK _ _ _ st ho.iZ
def aar:lq:=λf vs h K _=>f=71/\AC (λls=>ls.flatMap kQ) vs h K
theorem DY:lQ Tryz.prog aar:=by
 rintro f vs h K KP ⟨rfl,hC⟩;exact VY hC
theorem VZ(hC:AC (λls=>ls.flatMap tq) vs h K):kN Tryz.prog 66 vs h K KP:=by
 obtain⟨u,v,ls,rfl,hl,hbk,hK⟩:=hC
 obtain⟨la,lc,rfl,q1,q2⟩:=hl.sl
 have hm:=lC
 have hll:=pq ls
 refine jJ 17389 [(none,(.t 2))] DY Tryz.func66 ?_
 simp only[↓reduceIte,go_sem]
 obtain⟨I,hI⟩:=kg (α:=Nat->ku->H->Prop) λi σ h'=>σ 6= .slice la ls.length lc/\σ 7= Jx JT ls.length/\σ 8= Jx JT i/\i<=ls.length/\ ∃u',jD S0 u h u' h'/\lm h.size u' h' (σ 3) (uj (ls.take i))
 refine jE I (λi=>ls.length - i) 0 (by rw[hI];exact⟨zJ,zJ,zJ,aj _,u,.refl _ _ _,by simp only[jI];exact .nil _ _ _⟩) ?_
 intro i σ h' hy
 rw[hI]at hy
 obtain⟨e6,e7,e8,hi,u',st,ho⟩:=hy
 by_cases hlt:i<ls.length
 ·skip
  obtain⟨x,hs⟩:=qP hlt
  obtain⟨pb,po,rfl,hpb,hpu,hpz,hpr⟩:=(hl.mono st.ge).row i x hs
  have hprs:=hpr
  rw[kP]at hpr
  obtain⟨pv,hpr,hpv⟩:=hpr
  obtain⟨pva,pvc,rfl,r1,r2⟩:=hpv.sl
  have hcs:qV h' pb (po+i*Rep.sz jZ) (Rep.sz jZ)= #[Jx JT x.1,str x.2.1.1,.slice pva x.2.1.2.1.length pvc,Jx JT x.2.1.2.2,Jx JT x.2.2.1,Jx JT x.2.2.2.1.1,Jx JT x.2.2.2.1.2.1,str x.2.2.2.1.2.2.1,Jx JT x.2.2.2.1.2.2.2,Jx JT x.2.2.2.2.1.1,Jx JT x.2.2.2.2.1.2.1,str x.2.2.2.2.1.2.2.1,Jx JT x.2.2.2.2.1.2.2.2,Jx JT x.2.2.2.2.2].toList:=by rw[hpr];rfl
  rw[hcs]at hprs
  simp only[jM.enc,lJ,pm,aP,aJ,ax,aC]at hpr hpu hpz
  obtain⟨p0,p1,p2,p3,p4,p5,p6,p7,p8,p9,p10,p11,p12,p13⟩:=hpr
  have sp:=jD.qZ S0 u' h' #[Jx JT x.1,str x.2.1.1,.slice pva x.2.1.2.1.length pvc,Jx JT x.2.1.2.2,Jx JT x.2.2.1,Jx JT x.2.2.2.1.1,Jx JT x.2.2.2.1.2.1,str x.2.2.2.1.2.2.1,Jx JT x.2.2.2.1.2.2.2,Jx JT x.2.2.2.2.1.1,Jx JT x.2.2.2.2.1.2.1,str x.2.2.2.2.1.2.2.1,Jx JT x.2.2.2.2.1.2.2.2,Jx JT x.2.2.2.2.2] 141
  have hos:=ho.sZ sp
  have hk0:h.size<=h'.size:=st.ge.sz
  have hsn:uj (ls.take (i+1))=uj (ls.take i)++uj [x]:=by unfold uj;rw[aX,hs,bC,eY]
  have hlen:(uj (ls.take i)).length<=ls.length:=aT (bW ..) (by rw[aR];exact fP _ _)
  have hne: ∀b,jL (σ 3) b->h.size<=b:=λb hb=>ho.ge hb
  by_cases hk:x.1=1
  ·have hr:uj [x]=[]:=by unfold uj;simp [hk]
   simp(disch:=omega) only[↓reduceIte,go_sem,e6,e7,e8,hlt,p0,p1,p2,p3,p4,p5,p6,p7,p8,p9,p10,p11,p12,p13,ai hk]
   refine⟨i+1,?_,zO⟩
   rw[hI]
   exact⟨by simp [jI,e6],by simp [jI,e7],zJ,hlt,_,st.tZ sp,by rw[hsn,hr,bG];simpa [jI]using hos⟩
  ·have hr:uj [x]=[x]:=by unfold uj;simp [hk]
   simp(disch:=omega) only[↓reduceIte,go_sem,e6,e7,e8,hlt,p0,p1,p2,p3,p4,p5,p6,p7,p8,p9,p10,p11,p12,p13,ae hk]
   refine yC (by simp only[kw]) hos (x:=x) (cs:=[Jx JT x.1,str x.2.1.1,.slice pva x.2.1.2.1.length pvc,Jx JT x.2.1.2.2,Jx JT x.2.2.1,Jx JT x.2.2.2.1.1,Jx JT x.2.2.2.1.2.1,str x.2.2.2.1.2.2.1,Jx JT x.2.2.2.1.2.2.2,Jx JT x.2.2.2.2.1.1,Jx JT x.2.2.2.2.1.2.1,str x.2.2.2.2.1.2.2.1,Jx JT x.2.2.2.2.1.2.2.2,Jx JT x.2.2.2.2.2]) (Rep.mono sp.ge hprs) rfl rfl zY zO λa n c u3 h3 ho3 s3=>⟨jO,?_⟩
   simp(disch:=omega) only[↓reduceIte,go_sem,e8]
   refine⟨i+1,?_,zO⟩
   rw[hI]
   exact⟨by simp [jI,e6],by simp [jI,e7],zJ,hlt,u3,(st.tZ sp).trans s3 (λb hb hB=>by have:=hne b hB;omega),by rw[hsn,hr];simpa [jI]using ho3⟩
 ·obtain rfl:i=ls.length:=zO
  rw[aK]at ho
  have hbf:bulkL (uj ls)<=1048576:=aT (FO ls) hbk
  simp only[↓reduceIte,go_sem,e7,e8]
  refine jC ⟨rfl,u',_,_,rfl,ho.iZ,hbf,λu3 h3 w s3 hw=>⟨jO,?_⟩⟩
  simp only[↓reduceIte,go_sem,jN]
  exact hK _ _ _ (st.tZ s3) (by show jS _ _ _ (ls.flatMap tq);rw[<-RZ];exact hw)
def agM:lq:=λf vs h K _=>f=73/\JI vs h K
theorem Wd:lQ Tryz.prog agM:=by
 rintro f vs h K KP ⟨rfl,hC⟩;exact Mo hC
def ahI(vs:List Value)(h:H)(K:Value->H->Prop):Prop:= ∃(u:U) (v w:Value) (ts:List jM) (ls:List jZ),vs=[v,w]/\jS u h v ts/\jS u h w ls/\bulkL ls<=1048576/\ts.length<=4194304/\ ∀u' h',jD S0 u h u' h'->K (Jx JT (yS (jF ls) ts 0)) h'
theorem adG(hC:ahI vs h K):kN Tryz.prog 67 vs h K KP:=by
 obtain⟨u,v,w,ts,ls,rfl,ht,hl,hbk,htl,hK⟩:=hC
 obtain⟨ta,tc,rfl,-,-⟩:=ht.sl
 obtain⟨la,lc,rfl,q1,q2⟩:=hl.sl
 have hm:=lC
 refine jJ 4398078030771 [(none,(.t 4))] Wd Tryz.func67 ?_
 simp only[go_sem]
 refine xF u λu0 h0 s0 hm0=>⟨jO,?_⟩
 simp only[↓reduceIte,go_sem,jN]
 refine jC ⟨rfl,u0,_,ls,rfl,hl.mono s0.ge,hbk,λu1 h1 w s1 hw=>⟨jO,?_⟩⟩
 obtain⟨wa,wc,rfl,w1,w2⟩:=hw.sl
 have hvl:(jF ls).length<=maxLen:=zO
 obtain⟨vs,qV⟩:=kg (jF ls)
 rw[<-qV]at hw hvl hK
 have hvl':vs.length<=9223372036854775807:=hvl
 have hm1:=hm0.step s1 (λh=>h)
 have st1:=s0.tZ s1
 clear s0 s1 hm0
 simp only[↓reduceIte,go_sem,<-qV]
 obtain⟨I,hI⟩:=kg (α:=Nat->ku->H->Prop) λi σ h'=>σ 0= .slice ta ts.length tc/\σ 5= .map (some h.size)/\σ 12= .slice wa vs.length wc/\σ 13= Jx JT vs.length/\σ 14= Jx JT i/\i<=vs.length/\
   ∃u' m n,jD S0 u h u' h'/\jS u' h' (.slice wa vs.length wc) vs/\oI h' h.size m n/\(∀s,m s=if s∈vs.take i then some 1 else none)
 refine jE I (λi=>vs.length - i) 0 (by
  rw[hI]
  exact⟨zJ,zJ,zJ,zJ,zJ,aj _,u1,_,_,st1,hw,hm1,λs=>zP⟩) ?_
 ·intro i σ h' hy
  rw[hI]at hy
  obtain⟨e0,e5,e12,e13,e14,hi,u',m,n,st,hw,hmb,hms⟩:=hy
  by_cases hlt:i<vs.length
  ·obtain⟨x,hs⟩:=qP hlt
   obtain⟨pb,po,rfl,hpb,hpu,hpz,hpr⟩:=hw.row i x hs
   simp only[mE,He,qR,ax,aC]at hpr hpu hpz
   simp(disch:=omega) only[↓reduceIte,go_sem,e5,e12,e13,e14,hlt,hpr]
   refine xG u' hmb λh2 s2 hm2=>⟨jO,?_⟩
   simp(disch:=omega) only[↓reduceIte,go_sem,e14]
   refine⟨i+1,?_,zO⟩
   rw[hI]
   refine⟨by simp [jI,e0],by simp [jI,e5],by simp [jI,e12],by simp [jI,e13],zJ,hlt,u',_,_,st.trans s2 (λb hb e=>zO),hw.mono s2.ge,hm2,λs=> ?_⟩
   unfold zt
   rw[hms]
   by_cases hsx:s=x
   ·subst hsx
    rw[ah rfl,ah (by rw[aX,hs,bC];simp)]
   ·rw[af hsx]
    by_cases hin:s∈vs.take i
    ·rw[ah hin,ah (by rw[aX];exact List.mem_append_left _ hin)]
    ·rw[af hin,af (by rw[aX,hs,bC,aV,aY];rintro (h|h);exact hin h;exact hsx h)]
  ·obtain rfl:i=vs.length:=zO
   rw[aK]at hms
   have htl':ts.length<=9223372036854775807:=zO
   simp only[↓reduceIte,go_sem,e0,e13,e14]
   obtain⟨J,hJ⟩:=kg (α:=Nat->ku->H->Prop) λj σ h'=>σ 5= .map (some h.size)/\σ 21= .slice ta ts.length tc/\σ 22= Jx JT ts.length/\σ 23= Jx JT j/\j<=ts.length/\
     ∃u',jD S0 u h u' h'/\oI h' h.size m n/\(∀s∈ts.take j,kF vs s=false)
   refine jE J (λj=>ts.length - j) 0 (by
    rw[hJ]
    exact⟨by simp [jI,e5],zJ,zJ,zJ,aj _,u',st,hmb,zP⟩) ?_
   clear hI I e0 e5 e12 e13 e14 hw st1 hm1
   intro j σ1 h2 hy
   rw[hJ]at hy
   obtain⟨e5,e21,e22,e23,hj,u2,st,hmb,hno⟩:=hy
   by_cases hlt:j<ts.length
   ·obtain⟨t,hs⟩:=qP hlt
    obtain⟨tb,to,rfl,htb,htu,htz,htr⟩:=(ht.mono st.ge).row j t hs
    rw[ko]at htr
    simp only[jM.enc,lG,mQ,ax,aC]at htr htu htz
    obtain⟨t0,t1,t2,t3⟩:=htr
    have sp:=jD.qZ S0 u2 h2 #[Jx JT t.1,Jx JT t.2.1,str t.2.2.1,Jx JT t.2.2.2] 74
    have hmp:=hmb.step sp (λh=>h)
    have next: ∀(σ':ku) (u':U) (h':H),σ' 5=σ1 5->σ' 21=σ1 21->σ' 22=σ1 22->σ' 23= Jx JT ((j:Int)+1)->jD S0 u2 h2 u' h'->kF vs t=false-> ∃y,J y σ' h'/\ts.length - y<ts.length - j:=λσ' u' h' g5 g21 g22 g23 sx hb=>by
     refine⟨j+1,?_,zO⟩
     rw[hJ]
     exact⟨by rw[g5,e5],by rw[g21,e21],by rw[g22,e22],g23,hlt,u',st.tZ sx,hmb.step sx (λh=>h),Mm hno hs hb⟩
    have done:kF vs t=true->yS vs ts 0=j:=λhb=>by have:=(AB (k:=0) hno hs hb).1;omega
    by_cases hk4:t.1=4
    ·by_cases h95:t.2.2.1=[95]
     ·have hb:kF vs t=true:=by unfold kF;simp [hk4,h95]
      rw[done hb]at hK
      simp(disch:=omega) only[↓reduceIte,go_sem,e21,e22,e23,hlt,t0,t1,t2,t3,ai hk4,ai h95]
      exact hK _ _ (st.tZ sp)
     ·simp(disch:=omega) only[↓reduceIte,go_sem,e5,e21,e22,e23,hlt,t0,t1,t2,t3,ai hk4,ae h95]
      refine oz hmp ⟨jO,?_⟩
      rw[hms]
      by_cases hin:t.2.2.1∈vs
      ·have hb:kF vs t=false:=by unfold kF;simp [hk4,h95,hin]
       rw[ah hin]
       simp only[mr,dM,bZ]
       simp(disch:=omega) only[↓reduceIte,go_sem,e23]
       exact next _ _ _ zJ zJ zJ zJ sp hb
      ·have hb:kF vs t=true:=by unfold kF;simp [hk4,h95,hin]
       rw[done hb]at hK
       rw[af hin]
       simp only[mr,cZ,dR]
       simp only[↓reduceIte,go_sem]
       exact hK _ _ (st.tZ sp)
    ·have hb:kF vs t=false:=by unfold kF;simp [hk4]
     by_cases h95:t.2.2.1=[95]
     ·simp(disch:=omega) only[↓reduceIte,go_sem,e21,e22,e23,hlt,t0,t1,t2,t3,ae hk4,ai h95]
      exact next _ _ _ zJ zJ zJ zJ sp hb
     ·simp(disch:=omega) only[↓reduceIte,go_sem,e21,e22,e23,hlt,t0,t1,t2,t3,ae hk4,ae h95]
      exact next _ _ _ zJ zJ zJ zJ sp hb
   ·obtain rfl:j=ts.length:=zO
    rw[aK]at hno
    rw[(AA hno).1]at hK
    simp only[↓reduceIte,go_sem,e22,e23]
    exact hK _ _ st
end Go.Proofs.Z
namespace Edict
theorem FM(vs:lN): ∀(l:List jM),(∀t∈l,kF vs t=false)\/ ∃(i:Nat) (t:jM),l[i]? =some t/\(∀s∈l.take i,kF vs s=false)/\kF vs t=true
 |[]=> .inl zP
 |t::l=>by
  cases hb:kF vs t with
  |true=>exact .inr ⟨0,t,rfl,zP,hb⟩
  |false=>
   rcases FM vs l with h|⟨i,s,h1,h2,h3⟩
   ·exact .inl λs hs=>by
     rcases aH.1 hs with rfl|hs
     ·exact hb
     ·exact h s hs
   ·refine .inr ⟨i+1,s,by simpa using h1,λr hr=> ?_,h3⟩
    rw[dY]at hr
    rcases aH.1 hr with rfl|hr
    ·exact hb
    ·exact h2 r hr
end Edict
namespace Go.Proofs.Z
open Go Go.Ev Edict
variable {vs:List Value} {h:H} {K:Value->H->Prop} {KP:List PanicEntry->H->Prop}
theorem ui{α:Type} [Rep α](k:Nat)(u:U)(h:H)(hk:k<=h.size)(e:TypeId):lm k (ub u h.size 0) (h.push (.cells #[] e)) (.slice (some ⟨h.size,0,none⟩) 0 0) ([]:List α):=by
 have:=lm.made (α:=α) (k:=k) u h hk e [] [] zP (aj _) (λi x hx=>by simp at hx)
 simpa using this
theorem FN{c:jY}(hb:Rep.bulk c<=1048576):bulkL c.2<=1048576/\c.1.2.1.length<=1048576/\(c.2.flatMap tq).length<=1048576:=by
 have h2:=BG adF c.2
 have h3:Rep.bulk c=(c.1.1.length+1+(bulkL c.1.2.1+1))+bulkL c.2:=rfl
 have h4:=pq c.1.2.1
 omega
def GV(vs:List Value)(h:H)(K:Value->H->Prop):Prop:= ∃(u:U) (t:jM) (v:Value) (l:lN),vs=[.agg (jM.enc t).toArray,v]/\jS u h v l/\ ∀u' h',jD S0 u h u' h'->K (.bool (kF l t)) h'
theorem Cx(hC:GV vs h K):kN Tryz.prog 104 vs h K KP:=by
 obtain⟨u,t,v,l,rfl,hl,hK⟩:=hC
 refine jJ 23 [(none,(.t 4))] FP Tryz.func104 ?_
 have sp:=jD.qZ S0 u h #[Jx JT t.1,Jx JT t.2.1,str t.2.2.1,Jx JT t.2.2.2] 74
 by_cases hk4:t.1=4
 ·by_cases h95:t.2.2.1=[95]
  ·have hb:kF l t=true:=by unfold kF;simp [hk4,h95]
   rw[hb]at hK
   simp(disch:=omega) only[↓reduceIte,go_sem,jM.enc,ai hk4,ai h95]
   exact hK _ _ sp
  ·simp(disch:=omega) only[↓reduceIte,go_sem,jM.enc,ai hk4,ae h95]
   refine jC ⟨rfl,_,_,l,t.2.2.1,rfl,hl.mono sp.ge,λi hi=>⟨jO,?_⟩⟩
   by_cases hin:t.2.2.1∈l
   ·have hb:kF l t=false:=by unfold kF;simp [hk4,h95,hin]
    rw[hb]at hK
    simp only[↓reduceIte,go_sem,ae (show¬i<0 from λh=>hi.1 h hin)]
    exact hK _ _ sp
   ·have hb:kF l t=true:=by unfold kF;simp [hk4,h95,hin]
    rw[hb]at hK
    simp only[↓reduceIte,go_sem,ai (hi.2 hin)]
    exact hK _ _ sp
 ·have hb:kF l t=false:=by unfold kF;simp [hk4]
  rw[hb]at hK
  by_cases h95:t.2.2.1=[95]
  ·simp(disch:=omega) only[↓reduceIte,go_sem,jM.enc,ae hk4,ai h95]
   exact hK _ _ sp
  ·simp(disch:=omega) only[↓reduceIte,go_sem,jM.enc,ae hk4,ae h95]
   exact hK _ _ sp
def VW:lq:=λf vs h K _=>(f=105/\JI vs h K)\/(f=104/\GV vs h K)
theorem KQ:lQ Tryz.prog VW:=lY aas (pX Cx)
def YE(vs:List Value)(h:H)(K:Value->H->Prop):Prop:= ∃(u:U) (v w:Value) (l:lN),vs=[v,w]/\jS u h v l/\jS u h w l/\K (.bool true) h
theorem VX(hC:YE vs h K):kN Tryz.prog 111 vs h K KP:=by
 obtain⟨u,v,w,l,rfl,ha,hb,hK⟩:=hC
 obtain⟨aa,ac,rfl,q1,q2⟩:=ha.sl
 obtain⟨ba,bc,rfl,-,-⟩:=hb.sl
 have hm:=lC
 refine jJ 33571891 [(none,(.t 4))] (G:=(λ_ _ _ _ _=>False)) (λ_ _ _ _ _ h=>h.elim) Tryz.func111 ?_
 simp only[↓reduceIte,go_sem]
 obtain⟨I,hI⟩:=kg (α:=Nat->ku->H->Prop) λi σ h'=>σ 0= .slice aa l.length ac/\σ 1= .slice ba l.length bc/\σ 5= Jx JT i/\i<=l.length/\h'=h
 refine jE I (λi=>l.length - i) 0 (by rw[hI];exact⟨zJ,zJ,zJ,aj _,rfl⟩) ?_
 intro i σ h' hy
 rw[hI]at hy
 obtain⟨e0,e1,e5,hi,rfl⟩:=hy
 by_cases hlt:i<l.length
 ·obtain⟨x,hs⟩:=qP hlt
  obtain⟨pb,po,rfl,hpb,hpu,hpz,hpr⟩:=ha.row i x hs
  obtain⟨qb,qo,rfl,hqb,hqu,hqz,hqr⟩:=hb.row i x hs
  simp only[mE,He,qR,ax,aC]at hpr hpu hpz hqr hqu hqz
  simp(disch:=omega) only[↓reduceIte,go_sem,e0,e1,e5,hlt,hpr,hqr]
  refine⟨i+1,?_,zO⟩
  rw[hI]
  exact⟨by simp [jI,e0],by simp [jI,e1],zJ,hlt,rfl⟩
 ·obtain rfl:i=l.length:=zO
  simp only[↓reduceIte,go_sem,e0,e5]
  exact hK
end Go.Proofs.Z
namespace Edict
variable {b:UInt8} {f:UInt8->Bool} {i:Nat} {s:List UInt8}
def uN(n:Int):Bool:=decide (97<=n) && decide (n<=122)
def Sk(n:Int):Bool:=(decide (65<=n) && decide (n<=90)) || decide (n=95)
def YG(n:Int):Bool:=uN n || Sk n || !(decide (n<48) || decide (57<n))
def zn(f:Int->Bool):List UInt8->Bool
 |[]=>false
 |b::r=>decide (r.length+1<=64) && (f b.toNat && r.all λc=>YG c.toNat)
def qY(s:List UInt8):Bool:= !decide (s=[110,111,116]) && zn uN s
def JM(s:List UInt8):Bool:=zn Sk s
theorem Sl(hb:s[i]? =some b):(s.take (i+1)).all f=((s.take i).all f && f b):=by
 rw[aX,hb,bC,iU];simp
theorem Sm(hb:s[i]? =some b)(hf:f b=false):s.all f=false:=by
 cases h:s.all f with
 |false=>rfl
 |true=>rw[bI]at h;rw[h b (aF hb)]at hf;cases hf
end Edict
namespace Go.Proofs.Z
open Go Go.Ev Edict
variable {vs:List Value} {h:H} {K:Value->H->Prop} {KP:List PanicEntry->H->Prop}
def ul(f:Int->Bool)(vs:List Value)(h:H)(K:Value->H->Prop):Prop:= ∃n:Int,vs=[.int .u8 n]/\K (.bool (f n)) h
theorem Sn(hC:ul uN vs h K):kN Tryz.prog 167 vs h K KP:=by
 obtain⟨n,rfl,hK⟩:=hC
 refine jJ 5 [(none,(.t 2))] (G:=(λ_ _ _ _ _=>False)) (λ_ _ _ _ _ h=>h.elim) Tryz.func167 ?_
 simp only[↓reduceIte,go_sem]
 exact hK
theorem aaw(hC:ul Sk vs h K):kN Tryz.prog 180 vs h K KP:=by
 obtain⟨n,rfl,hK⟩:=hC
 refine jJ 5 [(none,(.t 2))] (G:=(λ_ _ _ _ _=>False)) (λ_ _ _ _ _ h=>h.elim) Tryz.func180 ?_
 simp only[↓reduceIte,go_sem]
 exact hK
theorem JN(hC:ul uN vs h K):kN Tryz.prog 171 vs h K KP:=by
 obtain⟨n,rfl,hK⟩:=hC
 refine jJ 5 [(none,(.t 2))] (G:=(λ_ _ _ _ _=>False)) (λ_ _ _ _ _ h=>h.elim) Tryz.func171 ?_
 simp only[↓reduceIte,go_sem]
 exact hK
def Iw(n:Int):Bool:=decide (65<=n) && decide (n<=90)
def adJ(n:Int):Bool:=decide (48<=n) && decide (n<=57)
theorem JO(hC:ul Iw vs h K):kN Tryz.prog 182 vs h K KP:=by
 obtain⟨n,rfl,hK⟩:=hC
 refine jJ 5 [(none,(.t 2))] (G:=(λ_ _ _ _ _=>False)) (λ_ _ _ _ _ h=>h.elim) Tryz.func182 ?_
 simp only[↓reduceIte,go_sem]
 exact hK
theorem Wi(hC:ul adJ vs h K):kN Tryz.prog 183 vs h K KP:=by
 obtain⟨n,rfl,hK⟩:=hC
 refine jJ 5 [(none,(.t 2))] (G:=(λ_ _ _ _ _=>False)) (λ_ _ _ _ _ h=>h.elim) Tryz.func183 ?_
 simp only[↓reduceIte,go_sem]
 exact hK
def Mr(vs:List Value)(h:H)(K:Value->H->Prop):Prop:=
 ∃(u:U) (s:List UInt8) (g:FuncId) (f:Int->Bool),vs=[str s,.func (.func g) #[] #[]]/\((g=167/\f=uN)\/(g=180/\f=Sk))/\s.length<=9223372036854775807/\ ∀u' h',jD S0 u h u' h'->K (.bool (zn f s)) h'
def EW:lq:=λf vs h K _=>(f=167/\ul uN vs h K)\/(f=180/\ul Sk vs h K)
theorem Ot:lQ Tryz.prog EW:=lY Sn (pX aaw)
theorem Wj(hC:Mr vs h K):kN Tryz.prog 166 vs h K KP:=by
 obtain⟨u,s,g,f,rfl,hg,hsl,hK⟩:=hC
 refine jJ 17592312922195 [(none,(.t 4))] Ot Tryz.func166 ?_
 cases s with
 |nil=>
  simp only[↓reduceIte,go_sem]
  exact hK u h (.refl _ _ _)
 |cons b r=>
  simp only[au]at hsl
  by_cases hl:r.length+1<=64
  ·have hne:=ae (List.cons_ne_nil b r)
   have hle:=ae (show¬(64:Int)<((r.length+1:Nat):Int) by omega)
   simp only[↓reduceIte,go_sem,hne,hle]
   refine⟨zO,vS ?_⟩
   have hfst: ∀K' KP',K' (.bool (f b.toNat)) h->EW g [.int .u8 (b.toNat:Int)] h K' KP':=by
    intro K' KP' hk
    rcases hg with⟨rfl,rfl⟩|⟨rfl,rfl⟩
    ·exact .inl ⟨rfl,_,rfl,hk⟩
    ·exact .inr ⟨rfl,_,rfl,hk⟩
   refine hfst _ _ ⟨jO,?_⟩
   simp only[zn,ai hl,decide_true,dI]at hK
   cases hf:f b.toNat with
   |false=>
    rw[hf]at hK
    simp only[↓reduceIte,go_sem,hne,hle]
    exact hK u h (.refl _ _ _)
   |true=>
    rw[hf]at hK
    simp only[dI]at hK
    simp only[↓reduceIte,go_sem,hne,hle]
    refine⟨zO,Px u zO λcap u2 h2 hcap s2 hlt2 hz hcell=>⟨jO,?_⟩⟩
    simp only[↓reduceIte,go_sem,jN]
    obtain⟨I,hI⟩:=kg (α:=Nat->ku->H->Prop) λj σ h'=>σ 23= .slice (some ⟨h.size,0,none⟩) r.length cap/\σ 24= Jx JT r.length/\σ 25= Jx JT j/\j<=r.length/\(r.take j).all (λc=>YG c.toNat)=true/\h'=h2
    refine jE I (λj=>r.length - j) 0 (by rw[hI];exact⟨zJ,zJ,zJ,aj _,rfl,rfl⟩) ?_
    intro j σ h' hy
    rw[hI]at hy
    obtain⟨e23,e24,e25,hj,hall,rfl⟩:=hy
    by_cases hlt:j<r.length
    ·obtain⟨c,hc⟩:=qP hlt
     have hcl:Go.Ev.hv h' h.size (j*1)= .int .u8 c.toNat:=by rw[dz];exact hcell j c hc
     have yes: ∀σ',σ' 23= .slice (some ⟨h.size,0,none⟩) r.length cap->σ' 24= Jx JT r.length->σ' 25= Jx JT ((j:Int)+1)->YG c.toNat=true-> ∃y,I y σ' h'/\r.length - y<r.length - j:=λσ' q1 q2 q3 q4=>
      ⟨j+1,by rw[hI];exact⟨q1,q2,q3,hlt,by rw[Sl hc,hall,q4];rfl,rfl⟩,zO⟩
     have no:YG c.toNat=false->K (.bool false) h':=λq=>by
      rw[Sm (f:=λc=>YG c.toNat) hc q]at hK
      exact hK _ _ s2
     simp only[YG]at yes no
     cases h1:uN c.toNat<;>cases h2:Sk c.toNat
     all_goals
      simp only[h1,h2,dZ,eF,true_implies]at yes no
      simp(disch:=omega) only[↓reduceIte,go_sem,nE,e23,e24,e25,hlt,hcl,EW,ul,h1,h2]
     ·refine⟨λhx=>no ?_,λhx=>yes _ (by simp [jI,e23]) (by simp [jI,e24]) zJ ?_⟩
      ·rw[Bool.not_eq_false',dW,aL,aL];exact hx
      ·rw[iD,dx,decide_eq_false_iff_not,decide_eq_false_iff_not]
       exact⟨λh=>hx (.inl h),λh=>hx (.inr h)⟩
     all_goals exact yes _ (by simp [jI,e23]) (by simp [jI,e24]) zJ
    ·obtain rfl:j=r.length:=zO
     rw[aK]at hall
     rw[hall]at hK
     simp only[↓reduceIte,go_sem,e24,e25]
     exact hK _ _ s2
  ·simp only[↓reduceIte,go_sem,ae (List.cons_ne_nil b r),ai (show(64:Int)<((r.length+1:Nat):Int) by omega)]
   simp only[zn,ae hl,decide_false,dU]at hK
   exact hK u h (.refl _ _ _)
def BZ(f:List UInt8->Bool)(vs:List Value)(h:H)(K:Value->H->Prop):Prop:= ∃(u:U) (s:List UInt8),vs=[str s]/\s.length<=9223372036854775807/\ ∀u' h',jD S0 u h u' h'->K (.bool (f s)) h'
def aax:lq:=λf vs h K _=>f=166/\Mr vs h K
theorem Ea:lQ Tryz.prog aax:=by
 rintro f vs h K KP ⟨rfl,hC⟩;exact Wj hC
theorem Ec(hC:BZ qY vs h K):kN Tryz.prog 147 vs h K KP:=by
 obtain⟨u,s,rfl,hsl,hK⟩:=hC
 refine jJ 5 [(none,(.t 2))] Ea Tryz.func147 ?_
 by_cases hn:s=[110,111,116]
 ·simp only[qY,ai hn,decide_true,eQ,dU]at hK
  simp only[↓reduceIte,go_sem,ai hn]
  exact hK u h (.refl _ _ _)
 ·simp only[qY,ae hn,decide_false,gG,dI]at hK
  simp only[↓reduceIte,go_sem,ae hn]
  refine jC ⟨rfl,u,s,_,_,rfl,.inl ⟨rfl,rfl⟩,hsl,λu2 h2 s2=>⟨jO,?_⟩⟩
  simp only[↓reduceIte,go_sem,ae hn]
  exact hK _ _ s2
theorem Sq(hC:BZ JM vs h K):kN Tryz.prog 168 vs h K KP:=by
 obtain⟨u,s,rfl,hsl,hK⟩:=hC
 refine jJ 5 [(none,(.t 2))] Ea Tryz.func168 ?_
 simp only[↓reduceIte,go_sem]
 refine jC ⟨rfl,u,s,_,_,rfl,.inr ⟨rfl,rfl⟩,hsl,λu2 h2 s2=>⟨jO,?_⟩⟩
 simp only[↓reduceIte,go_sem,jN]
 exact hK _ _ s2
/-! ### The reference -/
def adK(vs:List Value)(h:H)(K:Value->H->Prop):Prop:= ∃s:List UInt8,vs=[str s]/\s.length<=9223372036854775806/\K (.bool ((s.drop 1).all λc=>YG c.toNat)) h
def adL:lq:=λf vs h K _=>(f=171/\ul uN vs h K)\/(f=182/\ul Iw vs h K)\/(f=183/\ul adJ vs h K)
theorem Sr:lQ Tryz.prog adL:=lY JN (lY JO (pX Wi))
theorem aji(n:Int):YG n=(uN n || Iw n || adJ n || decide (n=95)):=by
 unfold YG Sk Iw adJ
 by_cases h1:n<48<;>by_cases h2:57<n<;>by_cases h3:48<=n<;>by_cases h4:n<=57<;>first|omega|(simp only[h1,h2,h3,h4,decide_true,decide_false,iK,ik,gM,fK,eQ,gG,eF,Bool.or_assoc])
theorem aay(hC:adK vs h K):kN Tryz.prog 172 vs h K KP:=by
 obtain⟨s,rfl,hsl,hK⟩:=hC
 refine jJ 17179869325 [(none,(.t 2))] Sr Tryz.func172 ?_
 simp only[go_sem]
 obtain⟨I,hI⟩:=kg (α:=Nat->ku->H->Prop) λj σ h'=>σ 0=str s/\σ 3= Jx JT ((j:Int)+1)/\j<=s.length/\((s.drop 1).take j).all (λc=>YG c.toNat)=true/\h'=h
 refine jE I (λj=>s.length - j) 0 (by rw[hI];exact⟨zJ,zJ,aj _,rfl,rfl⟩) ?_
 intro j σ h' hy
 rw[hI]at hy
 obtain⟨e0,e3,hj,hall,rfl⟩:=hy
 by_cases hlt:j+1<s.length
 ·obtain⟨c,hc⟩: ∃c,(s.drop 1)[j]? =some c:=⟨s[1+j],by simp [hlt,Nat.add_comm]⟩
  have hcs:(s.getD (j+1) 0)=c:=by
   rw[dP,Nat.add_comm]at hc
   rw[aG,hc];rfl
  have yes: ∀σ',σ' 0=str s->σ' 3= Jx JT ((j:Int)+1+1)->YG c.toNat=true-> ∃y,I y σ' h'/\s.length - y<s.length - j:=λσ' q1 q3 q4=>
   ⟨j+1,by rw[hI];exact⟨q1,q3,zO,by rw[Sl hc,hall,q4];rfl,rfl⟩,zO⟩
  have no:YG c.toNat=false->K (.bool false) h':=λq=>by
   rw[Sm (f:=λc=>YG c.toNat) hc q]at hK
   exact hK
  rw[aji]at yes no
  have l1:(0:Int)<=(j:Int)+1:=zO
  have l2:(j:Int)+1<(s.length:Int):=zO
  have l3:((j:Int)+1).toNat=j+1:=zO
  simp only[↓reduceIte,go_sem,e0,e3,ai l1,ai l2,l3,hcs]
  refine jC (.inl ⟨rfl,_,rfl,zE,?_⟩)
  cases h1:uN c.toNat with
  |true=>
   simp only[h1,eF,true_implies]at yes
   simp(disch:=omega) only[↓reduceIte,go_sem,e0,e3,l3,hcs]
   exact yes _ (by simp [jI,e0]) zJ
  |false=>
   simp only[h1,dZ]at yes no
   simp only[↓reduceIte,go_sem,e0,e3,ai l1,ai l2,l3,hcs]
   refine jC (.inr (.inl ⟨rfl,_,rfl,zE,?_⟩))
   cases h2:Iw c.toNat with
   |true=>
    simp only[h2,eF,true_implies]at yes
    simp(disch:=omega) only[↓reduceIte,go_sem,e0,e3,l3,hcs]
    exact yes _ (by simp [jI,e0]) zJ
   |false=>
    simp only[h2,dZ]at yes no
    simp only[↓reduceIte,go_sem,e0,e3,ai l1,ai l2,l3,hcs]
    refine jC (.inr (.inr ⟨rfl,_,rfl,zE,?_⟩))
    cases h3:adJ c.toNat with
    |true=>
     simp only[h3,eF,true_implies]at yes
     simp(disch:=omega) only[↓reduceIte,go_sem,e0,e3,l3,hcs]
     exact yes _ (by simp [jI,e0]) zJ
    |false=>
     simp only[h3,dZ,aL,decide_eq_false_iff_not]at yes no
     simp(disch:=omega) only[↓reduceIte,go_sem,e0,e3,ai l1,ai l2,l3,hcs]
     exact⟨λhx=>no hx,λhx=>yes _ (by simp [jI,e0]) zJ (Decidable.of_not_not hx)⟩
 ·have he:((s.drop 1).take j)=s.drop 1:=cB (by rw[bY];omega)
  rw[he]at hall
  rw[hall]at hK
  simp only[↓reduceIte,go_sem,e0,e3,ae (show¬(j:Int)+1<(s.length:Int) by omega)]
  exact hK
theorem Su{f:Int->Bool}{s:List UInt8}:zn f s=(!decide (s.length<1) && !decide (64<s.length) && (f (s.getD 0 0).toNat && (s.drop 1).all λc=>YG c.toNat)):=by
 cases s with
 |nil=>rfl
 |cons b r=>
  simp only[zn,au,gX,fU,eU]
  by_cases h:r.length+1<=64
  ·rw[bq h,aI (show¬r.length+1<1 by omega),aI (show¬64<r.length+1 by omega)];rfl
  ·rw[aI h,bq (show 64<r.length+1 by omega)];simp
def adM:lq:=λf vs h K _=>(f=171/\ul uN vs h K)\/(f=182/\ul Iw vs h K)\/(f=172/\adK vs h K)
theorem FR:lQ Tryz.prog adM:=lY JN (lY JO (pX aay))
theorem FT(hC:BZ qY vs h K):kN Tryz.prog 152 vs h K KP:=by
 obtain⟨u,s,rfl,hsl,hK⟩:=hC
 replace hK:=hK u h (.refl _ _ _)
 simp only[qY,Su]at hK
 refine jJ 16389 [(none,(.t 2))] FR Tryz.func152 ?_
 by_cases h0:(s.length:Int)<1
 ·rw[bq (show s.length<1 by omega)]at hK
  simp only[eQ,dU,fK]at hK
  simp only[↓reduceIte,go_sem,ai h0]
  exact hK
 by_cases h6:64<(s.length:Int)
 ·rw[bq (show 64<s.length by omega)]at hK
  simp only[eQ,dU,fK]at hK
  simp only[↓reduceIte,go_sem,ae h0,ai h6]
  exact hK
 by_cases hn:s=[110,111,116]
 ·rw[bq hn]at hK
  simp only[eQ,dU]at hK
  simp only[↓reduceIte,go_sem,ae h0,ae h6,ai hn]
  exact hK
 rw[aI hn,aI (show¬s.length<1 by omega),aI (show¬64<s.length by omega)]at hK
 simp only[gG,dI]at hK
 have l1:(0:Int)<(s.length:Int):=zO
 simp only[↓reduceIte,go_sem,ae h0,ae h6,ae hn,ai l1]
 refine jC (.inl ⟨rfl,_,rfl,zE,?_⟩)
 cases hf:uN (s.getD 0 0).toNat with
 |false=>
  rw[hf]at hK
  simp only[↓reduceIte,go_sem]
  exact hK
 |true=>
  rw[hf]at hK
  simp only[↓reduceIte,go_sem]
  refine jC (.inr (.inr ⟨rfl,s,rfl,zO,zE,?_⟩))
  simp only[↓reduceIte,go_sem]
  exact hK
theorem agN(n:Int):Sk n=(Iw n || decide (n=95)):=rfl
theorem Wl(hC:BZ JM vs h K):kN Tryz.prog 173 vs h K KP:=by
 obtain⟨u,s,rfl,hsl,hK⟩:=hC
 replace hK:=hK u h (.refl _ _ _)
 simp only[JM,Su,agN]at hK
 refine jJ 1029 [(none,(.t 2))] FR Tryz.func173 ?_
 by_cases h0:(s.length:Int)<1
 ·rw[bq (show s.length<1 by omega)]at hK
  simp only[eQ,dU]at hK
  simp only[↓reduceIte,go_sem,ai h0]
  exact hK
 by_cases h6:64<(s.length:Int)
 ·rw[bq (show 64<s.length by omega)]at hK
  simp only[eQ,dU,fK]at hK
  simp only[↓reduceIte,go_sem,ae h0,ai h6]
  exact hK
 rw[aI (show¬s.length<1 by omega),aI (show¬64<s.length by omega)]at hK
 simp only[gG,dI]at hK
 have l1:(0:Int)<(s.length:Int):=zO
 simp only[↓reduceIte,go_sem,ae h0,ae h6,ai l1]
 refine jC (.inr (.inl ⟨rfl,_,rfl,zE,?_⟩))
 cases hf:Iw (s.getD 0 0).toNat with
 |true=>
  rw[hf]at hK
  simp only[eF]at hK
  simp only[↓reduceIte,go_sem]
  refine jC (.inr (.inr ⟨rfl,s,rfl,zO,zE,?_⟩))
  simp only[↓reduceIte,go_sem]
  exact hK
 |false=>
  rw[hf]at hK
  simp only[dZ]at hK
  by_cases h95:((s.getD 0 0).toNat:Int)=95
  ·rw[bq h95]at hK
   simp only[↓reduceIte,go_sem,ai l1,ai h95]
   refine jC (.inr (.inr ⟨rfl,s,rfl,zO,zE,?_⟩))
   simp only[↓reduceIte,go_sem,ai h95]
   exact hK
  ·rw[aI h95]at hK
   simp only[↓reduceIte,go_sem,ai l1,ae h95]
   exact hK
end Go.Proofs.Z
namespace Edict
def qN(k:jK):Bool:=if k.1=1 then decide (k.2.2=[])else if k.1=2 then decide (k.2.1=0) && qY k.2.2 else if k.1=3 then decide (k.2.1=0) && decide (k.2.2.length<=255)else false
def Cy(k:jK):Int:=if qN k then 0 else 5
def mY(t:jM):Int:=if t.1=4 then(if t.2.1=0/\JM t.2.2.1=true then 0 else 14)else Cy (t.1,t.2.1,t.2.2.1)
def ng{α:Type}(f:α->Int):List α->Int
 |[]=>0
 |x::l=>if f x=0 then ng f l else f x
theorem rY{α:Type}{f:α->Int}{l:List α}{i:Nat}{x:α}(h:l[i]? =some x):ng f (l.drop i)=if f x=0 then ng f (l.drop (i+1))else f x:=by
 obtain⟨hi,rfl⟩:=aB.1 h
 rw[aN hi];rfl
def yu(t:jM):Bool:=decide (t.1=0) && decide (t.2.1=0) && decide (t.2.2.1=[])
def nC(a:kZ):Int:=if qY a.1 then(if 8<a.2.1.length then 22 else ng mY a.2.1)else 14
def Sd(l:jZ):Int:=if l.2.2.1<1\/6<l.2.2.1\/l.2.1.1≠[]\/l.2.1.2.1≠[]then 2 else if mY l.2.2.2.1=0 then mY l.2.2.2.2.1 else mY l.2.2.2.1
def vk(l:jZ):Int:=if l.1=1\/l.1=2 then(if l.2.2.1=0/\yu l.2.2.2.1=true/\yu l.2.2.2.2.1=true then nC l.2.1 else 2)else if l.1=3 then Sd l else 2
def lw(c:jY):Int:=if nC c.1=0 then(if 16<c.2.length then 23 else ng vk c.2)else nC c.1
def qI(p:List jY):Int:=if 512<p.length then 24 else ng lw p
end Edict
namespace Go.Proofs.Z
open Go Go.Ev Edict
variable {vs:List Value} {h:H} {K:Value->H->Prop} {KP:List PanicEntry->H->Prop}
theorem Gt:maxLen=9223372036854775807:=rfl
def lL{α:Type} [Rep α](f:α->Value)(vs:List Value)(h:H)(K:Value->H->Prop):Prop:= ∃(u:U) (a:α) (l:List Value),vs=[.agg l.toArray]/\Rep.rep u h a l/\Rep.wf a/\ ∀u' h',jD S0 u h u' h'->K (f a) h'
def vI{α:Type}(f:α->Int):α->Value:=λa=> Jx JT (f a)
def vB{α:Type}(f:α->Bool):α->Value:=λa=> .bool (f a)
def Wh:lq:=λf vs h K _=>(f=147/\BZ qY vs h K)
theorem KR:lQ Tryz.prog Wh:=pX Ec
theorem FQ(hC:lL (vB qN) vs h K):kN Tryz.prog 181 vs h K KP:=by
 obtain⟨u,⟨kk,ki,ks⟩,l,rfl,hr,⟨-,-,hs⟩,hK⟩:=hC
 have hs':ks.length<=9223372036854775807:=hs
 rw[mZ]at hr
 subst hr
 simp only[vB,qN]at hK
 refine jJ 1049655 [(none,(.t 2))] KR Tryz.func181 ?_
 by_cases h1:kk=1
 ·subst h1
  simp only[bv]at hK
  simp(disch:=omega) only[↓reduceIte,go_sem]
  exact hK _ _ zT
 by_cases h2:kk=2
 ·subst h2
  simp only[show¬((2:Int)=1) by decide,aW,bv]at hK
  by_cases hi:ki=0
  ·subst hi
   simp only[decide_true,dI]at hK
   simp(disch:=omega) only[↓reduceIte,go_sem]
   refine jC ⟨rfl,ub u h.size 0,ks,rfl,hs',λu2 h2 s2=>⟨jO,?_⟩⟩
   simp only[↓reduceIte,go_sem,jN]
   exact hK _ _ (jD.tZ zT s2)
  ·rw[aI hi]at hK
   simp(disch:=omega) only[↓reduceIte,go_sem,ae hi]
   exact hK _ _ zT
 by_cases h3:kk=3
 ·subst h3
  simp only[show¬((3:Int)=1) by decide,show¬((3:Int)=2) by decide,aW,bv]at hK
  have e:decide ((ks.length:Int)<=255)=decide (ks.length<=255):=by
   by_cases q:ks.length<=255
   ·rw[bq q,bq zO]
   ·rw[aI q,aI zO]
  simp(disch:=omega) only[↓reduceIte,go_sem,e]
  exact hK _ _ zT
 ·simp only[ae h1,ae h2,ae h3,aW]at hK
  simp(disch:=omega) only[↓reduceIte,go_sem,ae h1,ae h2,ae h3]
  exact hK _ _ zT
def aat:lq:=λf vs h K _=>(f=152/\BZ qY vs h K)
theorem Oo:lQ Tryz.prog aat:=pX FT
theorem JK(hC:lL (vB qN) vs h K):kN Tryz.prog 174 vs h K KP:=by
 obtain⟨u,⟨kk,ki,ks⟩,l,rfl,hr,⟨-,-,hs⟩,hK⟩:=hC
 have hs':ks.length<=9223372036854775807:=hs
 rw[mZ]at hr
 subst hr
 simp only[vB,qN]at hK
 refine jJ 1049655 [(none,(.t 2))] Oo Tryz.func174 ?_
 by_cases h1:kk=1
 ·subst h1
  simp only[bv]at hK
  simp(disch:=omega) only[↓reduceIte,go_sem]
  exact hK _ _ zT
 by_cases h2:kk=2
 ·subst h2
  simp only[show¬((2:Int)=1) by decide,aW,bv]at hK
  by_cases hi:ki=0
  ·subst hi
   simp only[decide_true,dI]at hK
   simp(disch:=omega) only[↓reduceIte,go_sem]
   refine jC ⟨rfl,ub u h.size 0,ks,rfl,hs',λu2 h2 s2=>⟨jO,?_⟩⟩
   simp only[↓reduceIte,go_sem,jN]
   exact hK _ _ (jD.tZ zT s2)
  ·rw[aI hi]at hK
   simp(disch:=omega) only[↓reduceIte,go_sem,ae hi]
   exact hK _ _ zT
 by_cases h3:kk=3
 ·subst h3
  simp only[show¬((3:Int)=1) by decide,show¬((3:Int)=2) by decide,aW,bv]at hK
  have e:decide ((ks.length:Int)<=255)=decide (ks.length<=255):=by
   by_cases q:ks.length<=255
   ·rw[bq q,bq zO]
   ·rw[aI q,aI zO]
  simp(disch:=omega) only[↓reduceIte,go_sem,e]
  exact hK _ _ zT
 ·simp only[ae h1,ae h2,ae h3,aW]at hK
  simp(disch:=omega) only[↓reduceIte,go_sem,ae h1,ae h2,ae h3]
  exact hK _ _ zT
def rR(vs:List Value)(h:H)(K:Value->H->Prop):Prop:= ∃(u:U) (t:jM),vs=[.agg (jM.enc t).toArray]/\ ∀u' h',jD S0 u h u' h'->K (.agg #[Jx JT t.1,Jx JT t.2.1,str t.2.2.1]) h'
theorem BV(hC:rR vs h K):kN Tryz.prog 170 vs h K KP:=by
 obtain⟨u,t,rfl,hK⟩:=hC
 refine jJ 7 [((some (.c1 (.ldn 3) (.t 2))),(.o1 (.ldn 3) (.t 2)))] (G:=(λ_ _ _ _ _=>False)) (λ_ _ _ _ _ h=>h.elim) Tryz.func170 ?_
 simp(disch:=first|omega|simp only[zz];try omega;done) only[↓reduceIte,go_sem,jM.enc]
 exact hK _ _ zT
def KS:lq:=λf vs h K _=>(f=181/\lL (vB qN) vs h K)
theorem ET:lQ Tryz.prog KS:=pX FQ
theorem JL(hC:lL (vI Cy) vs h K):kN Tryz.prog 169 vs h K KP:=by
 obtain⟨u,k,l,rfl,hr,hw,hK⟩:=hC
 have hr':=hr
 rw[mZ]at hr
 subst hr
 simp only[vI,Cy]at hK
 refine jJ 39 [(none,(.t 2))] ET Tryz.func169 ?_
 simp(disch:=omega) only[↓reduceIte,go_sem]
 refine jC ⟨rfl,_,k,_,rfl,Rep.mono (jD.ge (S:=S0) zT) hr',hw,λu2 h2 s2=>⟨jO,?_⟩⟩
 simp only[vB]
 have s02:=jD.tZ (S:=S0) (u:=u) (h:=h) zT s2
 cases hv:qN k with
 |true=>rw[hv]at hK;simp only[↓reduceIte,go_sem,jN];exact hK _ _ s02
 |false=>rw[hv]at hK;simp only[↓reduceIte,go_sem,jN];exact hK _ _ s02
def Oq:lq:=λf vs h K _=>(f=168/\BZ JM vs h K)\/(f=170/\rR vs h K)\/(f=169/\lL (vI Cy) vs h K)
theorem Gu:lQ Tryz.prog Oq:=lY Sq (lY BV (pX JL))
def adI:lq:=λf vs h K _=>(f=173/\BZ JM vs h K)\/(f=174/\lL (vB qN) vs h K)
theorem Sj:lQ Tryz.prog adI:=lY Wl (pX JK)
theorem KT(hC:lL (vI mY) vs h K):kN Tryz.prog 149 vs h K KP:=by
 obtain⟨u,⟨tk,ti,ts,to⟩,l,rfl,hr,⟨⟨w1,w2⟩,⟨w3,w4⟩,hs,⟨w5,w6⟩⟩,hK⟩:=hC
 have hs':ts.length<=9223372036854775807:=hs
 rw[ko]at hr
 subst hr
 simp only[vI,mY]at hK
 refine jJ 16423 [(none,(.t 2))] Gu Tryz.func149 ?_
 by_cases h4:tk=4
 ·subst h4
  simp only[bv]at hK
  by_cases hi:ti=0
  ·subst hi
   simp only[true_and]at hK
   simp(disch:=omega) only[↓reduceIte,go_sem,jM.enc]
   refine jC (.inl ⟨rfl,ub u h.size 0,ts,rfl,hs',λu2 h2 s2=>⟨jO,?_⟩⟩)
   have s02:=jD.tZ (S:=S0) (u:=u) (h:=h) zT s2
   cases hv:JM ts with
   |true=>rw[hv]at hK;simp only[↓reduceIte,go_sem,jN];exact hK _ _ s02
   |false=>rw[hv]at hK;simp only[↓reduceIte,go_sem,jN];exact hK _ _ s02
  ·simp only[ae hi,false_and,aW]at hK
   simp(disch:=omega) only[↓reduceIte,go_sem,jM.enc,ae hi]
   exact hK _ _ zT
 ·simp only[ae h4,aW]at hK
  simp(disch:=omega) only[↓reduceIte,go_sem,jM.enc,ae h4]
  refine jC (.inr (.inl ⟨rfl,ub u h.size 0,(tk,ti,ts,to),rfl,λu2 h2 s2=>⟨jO,?_⟩⟩))
  have s02:=jD.tZ (S:=S0) (u:=u) (h:=h) zT s2
  simp only[↓reduceIte,go_sem,jN]
  refine jC (.inr (.inr ⟨rfl,u2,(tk,ti,ts),_,rfl,by rw[mZ],⟨⟨w1,w2⟩,⟨w3,w4⟩,hs⟩,λu3 h3 s3=>⟨jO,?_⟩⟩))
  simp only[↓reduceIte,go_sem,vI]
  exact hK _ _ (s02.tZ s3)
theorem EU(hC:lL (vI mY) vs h K):kN Tryz.prog 153 vs h K KP:=by
 obtain⟨u,⟨tk,ti,ts,to⟩,l,rfl,hr,⟨⟨w1,w2⟩,⟨w3,w4⟩,hs,⟨w5,w6⟩⟩,hK⟩:=hC
 have hs':ts.length<=9223372036854775807:=hs
 rw[ko]at hr
 subst hr
 simp only[vI,mY]at hK
 refine jJ 8405031 [(none,(.t 2))] Sj Tryz.func153 ?_
 by_cases h4:tk=4
 ·subst h4
  simp only[bv]at hK
  by_cases hi:ti=0
  ·subst hi
   simp only[true_and]at hK
   simp(disch:=omega) only[↓reduceIte,go_sem,jM.enc]
   refine jC (.inl ⟨rfl,ub u h.size 0,ts,rfl,hs',λu2 h2 s2=>⟨jO,?_⟩⟩)
   have s02:=jD.tZ (S:=S0) (u:=u) (h:=h) zT s2
   cases hv:JM ts with
   |true=>rw[hv]at hK;simp only[↓reduceIte,go_sem,jN];exact hK _ _ s02
   |false=>rw[hv]at hK;simp only[↓reduceIte,go_sem,jN];exact hK _ _ s02
  ·simp only[ae hi,false_and,aW]at hK
   simp(disch:=omega) only[↓reduceIte,go_sem,jM.enc,ae hi]
   exact hK _ _ zT
 ·simp only[ae h4,aW,Cy]at hK
  simp(disch:=omega) only[↓reduceIte,go_sem,jM.enc,ae h4]
  refine jC (.inr ⟨rfl,ub u h.size 0,(tk,ti,ts),_,rfl,by rw[mZ],⟨⟨w1,w2⟩,⟨w3,w4⟩,hs⟩,λu2 h2 s2=>⟨jO,?_⟩⟩)
  have s02:=jD.tZ (S:=S0) (u:=u) (h:=h) zT s2
  simp only[vB]
  cases hv:qN (tk,ti,ts)with
  |true=>rw[hv]at hK;simp only[↓reduceIte,go_sem,jN];exact hK _ _ s02
  |false=>rw[hv]at hK;simp only[↓reduceIte,go_sem,jN];exact hK _ _ s02
theorem aau(hC:lL (vB yu) vs h K):kN Tryz.prog 150 vs h K KP:=by
 obtain⟨u,t,l,rfl,hr,-,hK⟩:=hC
 rw[ko]at hr
 subst hr
 simp only[vB,yu]at hK
 refine jJ 7 [(none,(.t 2))] (G:=(λ_ _ _ _ _=>False)) (λ_ _ _ _ _ h=>h.elim) Tryz.func150 ?_
 simp(disch:=omega) only[↓reduceIte,go_sem,jM.enc]
 rw[Bool.and_assoc]at hK
 exact hK _ _ zT
theorem aav(hC:lL (vB yu) vs h K):kN Tryz.prog 154 vs h K KP:=by
 obtain⟨u,t,l,rfl,hr,-,hK⟩:=hC
 rw[ko]at hr
 subst hr
 simp only[vB,yu]at hK
 refine jJ 7 [(none,(.t 2))] (G:=(λ_ _ _ _ _=>False)) (λ_ _ _ _ _ h=>h.elim) Tryz.func154 ?_
 simp(disch:=omega) only[↓reduceIte,go_sem,jM.enc]
 skip
 exact hK _ _ zT
end Go.Proofs.Z
namespace Edict
def YC(l:jZ):Bool:=decide (l.1=1\/l.1=2)
def mU(ls:List jZ):List kZ:=(ls.filter YC).map (·.2.1)
def kJ(c:jY):List kZ:=c.1::mU c.2
def kC(c:jY):List jM:=c.1.2.1++c.2.flatMap kQ
def oQ(ps:List kK)(s:List UInt8):Option Int:=(ps.find? λp=>decide (p.1=s)).map (·.2)
def kv:List kK->List kZ->List kK×Int×Int
 |ps,[]=>(ps,0,0)
 |ps,a::l=>match oQ ps a.1 with
  |some n=>if n=a.2.1.length then kv ps l else(ps,30,a.2.2)
  |none=>if 128<=ps.length then(ps,31,a.2.2)else kv (ps++[(a.1,(a.2.1.length:Int))]) l
def qM:lN->List jM->Option jM
 |_,[]=>none
 |vs,t::l=>if 16<(kV vs t).length then some t else qM (kV vs t) l
def wJ(c:jY):Option jM:=(oU c).find? (kF (jF c.2))
def jU(t:jM):jK:=(t.1,t.2.1,t.2.2.1)
def pR(cs:List jK)(t:jM):List jK:=if t.1=4\/jU t∈cs then cs else cs++[jU t]
def pG:List jK->List jM->List jK×Option jM
 |cs,[]=>(cs,none)
 |cs,t::l=>if t.1≠4/\jU t ∉ cs/\65536<=cs.length then(cs,some t)else pG (pR cs t) l
def ru(ps:List kK)(a:kZ):List kK:=if a.1∈ps.map (·.1)then ps else ps++[(a.1,(a.2.1.length:Int))]
def nJ{κ:Type} [DecidableEq κ](l:List κ)(s:κ):Option Int:=if s∈l then some ((l.idxOf s:Nat):Int)else none
def wK{κ:Type} [DecidableEq κ](l:List κ)(s:κ):Int:=(nJ l s).getD 0
def ol(l:lN)(s:List UInt8):Option Int:=if s∈l then some (((l.length - 1 - l.reverse.idxOf s:Nat)):Int)else none
def Ay(l:lN)(s:List UInt8):Int:=(ol l s).getD 0
def mi(cs:List jK)(vs:lN)(t:jM):uL:=if t.1=4 then(true,Ay vs t.2.2.1)else(false,wK cs (jU t))
def ahH(cs:List jK)(vs:lN)(t:jM):uL:=mi cs (kV vs t) t
def rQ(cs:List jK):lN->List jM->List uL
 |_,[]=>[]
 |vs,t::l=>ahH cs vs t::rQ cs (kV vs t) l
def uI(ps:List kK)(s:List UInt8):Int:=wK (ps.map (·.1)) s
def ry(ps:List kK)(cs:List jK):lN->List jZ->List mV
 |_,[]=>[]
 |vs,l::r=>if l.1=1 then(uI ps l.2.1.1,rQ cs vs l.2.1.2.1)::ry ps cs (tu vs l) r else ry ps cs vs r
def adD(cs:List jK)(vs:lN)(l:jZ):Test:=(l.2.2.1,mi cs vs l.2.2.2.1,mi cs vs l.2.2.2.2.1)
def RX(ps:List kK)(cs:List jK)(vs:lN)(a:kZ):mV:=(uI ps a.1,a.2.1.map (mi cs vs))
def mK(cs:List jK)(vs:lN)(ls:List jZ):List Test:=(ls.filter λl=>decide (l.1=3)).map (adD cs vs)
def om(ps:List kK)(cs:List jK)(vs:lN)(ls:List jZ):List mV:=(ls.filter λl=>decide (l.1=2)).map λl=>RX ps cs vs l.2.1
def YD(ps:List kK)(cs:List jK)(hd:mV)(n:Int)(ls:List jZ):oq:=(hd,ry ps cs [] ls,mK cs (jF ls) ls,om ps cs (jF ls) ls,jF ls,n)
def RY(ps:List kK)(cs:List jK)(n:Int)(c:jY):oq:=YD ps cs (RX ps cs (jF c.2) c.1) n c.2
def ou(ps:List kK)(cs:List jK)(a:kZ):sj:=(uI ps a.1,a.2.1.map λt=>wK cs (jU t))
def BO(r:sj):List Int:=(r.1::r.2)++List.replicate (8 - r.2.length) 0
def rX(l:List sj)(r:sj):List sj:=if BO r∈l.map BO then l else l++[r]
def Az(ps:List kK)(cs:List jK)(st:List oq×List sj)(n:Nat)(c:jY):List oq×List sj:=
 if c.2=[]then(st.1,rX st.2 (ou ps cs c.1))else(st.1++[RY ps cs n c],st.2)
def sV(ps:List kK)(cs:List jK):List oq×List sj->Nat->List jY->List oq×List sj
 |st,_,[]=>st
 |st,n,c::l=>sV ps cs (Az ps cs st n c) (n+1) l
def tT:List kK×List jK->List jY->(List kK×List jK)×Option jM
 |st,[]=>(st,none)
 |st,c::l=>match pG st.2 (kC c)with
  |(cs,none)=>tT ((kJ c).foldl ru st.1,cs) l
  |(cs,some t)=>(((kJ c).foldl ru st.1,cs),some t)
def yn:List jK->List kZ->List jK×Option jM
 |cs,[]=>(cs,none)
 |cs,a::l=>match pG cs a.2.1 with
  |(cs,none)=>yn cs l
  |(cs,some t)=>(cs,some t)
abbrev BP:=Int×Int×Int
def JE(a:kZ):Bool:=decide (nC a=0) && a.2.1.all λt=> !decide (t.1=4)
def qG(p:List jY)(fs:List kZ):BP:=
 if qI p≠0 then(qI p,0,0)
 else if 4096<fs.length then(24,1,0)
 else match fs.find? λa=> !JE a with
  |some a=>(2,1,a.2.2)
  |none=>match kv [] (p.flatMap kJ)with
   |(_,30,o)=>(30,0,o)
   |(_,31,o)=>(31,0,o)
   |(ps,_)=>match kv ps fs with
    |(_,30,o)=>(30,1,o)
    |(_,31,o)=>(31,1,o)
    |_=>(0,0,0)
def lh(c:jY):BP:=match qM [] (kC c)with
 |some t=>(32,0,t.2.2.2)
 |none=>match wJ c with
  |some t=>(33,0,t.2.2.2)
  |none=>(0,0,0)
def mF:List jY->BP
 |[]=>(0,0,0)
 |c::l=>if lh c=(0,0,0)then mF l else lh c
def qH:Gn:=([],[],[],[])
def qi(p:List jY)(fs:List kZ):Gn×BP:=
 if qG p fs≠(0,0,0)then(qH,qG p fs)
 else if mF p≠(0,0,0)then(qH,mF p)
 else match tT ([],[]) p with
  |(_,some t)=>(qH,6,0,t.2.2.2)
  |((ps,cs),none)=>match yn cs fs with
   |(_,some t)=>(qH,6,1,t.2.2.2)
   |(cs,none)=>
    let ps:=fs.foldl ru ps
    let st:=sV ps cs ([],[]) 0 p
    ((ps,cs,st.1,fs.foldl (λl a=>rX l (ou ps cs a)) st.2),0,0,0)
theorem ES{κ:Type} [DecidableEq κ]{l:List κ}{s:κ}(h:s ∉ l)(t:κ):nJ (l++[s]) t=if t=s then some (l.length:Int)else nJ l t:=by
 unfold nJ
 by_cases e:t=s
 ·subst e
  rw[ah rfl,ah zP,gK,af h]
  simp
 ·rw[af e]
  by_cases m:t∈l
  ·rw[ah m,ah (by simp [m]),gK,ah m]
  ·rw[af m,af (by simp [m,e])]
theorem yo{κ:Type} [DecidableEq κ]{l:List κ}{s:κ}:(nJ l s).isSome=true↔s∈l:=by
 unfold nJ;split<;>simp_all
theorem Cw(l:lN)(s t:List UInt8):ol (l++[s]) t=if t=s then some (l.length:Int)else ol l t:=by
 unfold ol
 by_cases e:t=s
 ·subst e
  rw[ah rfl,ah zP,jr]
  simp
 ·rw[af e]
  by_cases m:t∈l
  ·rw[ah m,ah (by simp [m]),jr]
   have h2:(s == t)=false:=by simpa using λh=>e h.symm
   simp only[List.reverse_cons,List.reverse_nil,aJ,List.singleton_append,List.idxOf_cons,h2,ay,au,aA,cond_false]
   congr 2;omega
  ·rw[af m,af (by simp [m,e])]
theorem JF{l:lN}{s:List UInt8}:(ol l s).isSome=true↔s∈l:=by
 unfold ol;split<;>simp_all
variable {a b:jK} {cs:List jK} {k:Bool} {t:jM}
/-! ### Comparing -/
def tL:List Int->List Int->Int
 |[],[]=>0
 |[],_::_=> -1
 |_::_,[]=>1
 |x::a,y::b=>if x<y then -1 else if y<x then 1 else tL a b
theorem Yz: ∀{a b:List Int},tL a b=0↔a=b
 |[],[]=>by simp [tL]
 |[],_::_=>by simp [tL]
 |_::_,[]=>by simp [tL]
 |x::a,y::b=>by
  have ih:=Yz (a:=a) (b:=b)
  unfold tL
  split
  ·simp;omega
  ·split
   ·simp;omega
   ·rw[ih,ax];constructor
    ·intro h;exact⟨zO,h⟩
    ·intro h;exact h.2
theorem Mk: ∀a b:List Int,tL b a= - tL a b
 |[],[]=>by simp [tL]
 |[],_::_=>by simp [tL]
 |_::_,[]=>by simp [tL]
 |x::a,y::b=>by
  have ih:=Mk a b
  unfold tL
  by_cases h1:x<y
  ·rw[af zO,ah h1,ah h1];rfl
  ·by_cases h2:y<x
   ·rw[ah h2,af h1,ah h2]
   ·rw[af h2,af h1,af h1,af h2,ih]
theorem Jy: ∀{a b c:List Int},tL a b<0->tL b c<0->tL a c<0
 |[],_,[],h1,h2=>by
  rename_i b
  cases b with
  |nil=>simp [tL]at h1
  |cons y b=>simp [tL]at h2
 |[],_,_::_,_,_=>by simp [tL]
 |_::_,[],_,h1,_=>by simp [tL]at h1
 |_::_,_::_,[],_,h2=>by simp [tL]at h2
 |x::a,y::b,z::c,h1,h2=>by
  have ih:=Jy (a:=a) (b:=b) (c:=c)
  unfold tL at h1 h2 ⊢
  by_cases e1:x<y
  ·by_cases e2:y<z
   ·rw[ah zO];decide
   ·rw[af e2]at h2
    by_cases e3:z<y
    ·rw[ah e3]at h2;omega
    ·rw[ah zO];decide
  ·rw[af e1]at h1
   by_cases e3:y<x
   ·rw[ah e3]at h1;omega
   ·rw[af e3]at h1
    by_cases e2:y<z
    ·rw[ah zO];decide
    ·rw[af e2]at h2
     by_cases e4:z<y
     ·rw[ah e4]at h2;omega
     ·rw[af e4]at h2
      rw[af zO,af zO]
      exact ih h1 h2
def Jz(s:List UInt8):List Int:=s.map λb=>(b.toNat:Int)
theorem RU: ∀{a b:List UInt8},Jz a=Jz b->a=b
 |[],[],_=>rfl
 |[],_::_,h=>by simp [Jz]at h
 |_::_,[],h=>by simp [Jz]at h
 |x::a,y::b,h=>by
  simp only[Jz,aS,ax]at h
  have h1:x.toNat=y.toNat:=zO
  rw[eH.1 h1,RU (a:=a) (b:=b) h.2]
def Gq(c:jK):List Int:=c.1::c.2.1::Jz c.2.2
theorem adB(h:Gq a=Gq b):a=b:=by
 unfold Gq at h
 simp only[ax]at h
 exact Prod.ext h.1 (Prod.ext h.2.1 (RU h.2.2))
def Gr(a b:List UInt8):Int:=tL (Jz a) (Jz b)
def uh(a b:jK):Int:=tL (Gq a) (Gq b)
theorem vg:uh a b=0↔a=b:=by
 unfold uh;rw[Yz];exact⟨adB,λh=>by rw[h]⟩
theorem ER(a b:jK):uh b a= - uh a b:=Mk _ _
theorem VV{c:jK}(h1:uh a b<0)(h2:uh b c<0):uh a c<0:=Jy h1 h2
theorem adC(a b:jK):uh a b=if a.1≠b.1 then(if a.1<b.1 then -1 else 1)else if a.2.1≠b.2.1 then(if a.2.1<b.2.1 then -1 else 1)else Gr a.2.2 b.2.2:=by
 unfold uh Gq Gr
 rw[tL]
 by_cases h1:a.1=b.1
 ·rw[af zO,af zO,af (by simp [h1]),tL]
  by_cases h2:a.2.1=b.2.1
  ·rw[af zO,af zO,af (by simp [h2])]
  ·rw[ah h2]
   by_cases h3:a.2.1<b.2.1
   ·rw[ah h3,ah h3]
   ·rw[af h3,af h3,ah zO]
 ·rw[ah h1]
  by_cases h3:a.1<b.1
  ·rw[ah h3,ah h3]
  ·rw[af h3,af h3,ah zO]
/-! ### Merging -/
def mJ{α:Type}(lt:α->α->Bool):List α->List α->List α
 |[],b=>b
 |x::a,[]=>x::a
 |x::a,y::b=>if lt x y then x::mJ lt a (y::b)else y::mJ lt (x::a) b
termination_by a b=>a.length+b.length
theorem JA{α:Type}(lt:α->α->Bool)(a:List α):mJ lt a []=a:=by
 cases a<;>simp [mJ]
theorem uG{α:Type}(lt:α->α->Bool): ∀(n:Nat) (a b:List α),a.length+b.length<=n->(mJ lt a b).Perm (a++b)
 |_,[],b,_=>by simp [mJ]
 |_,x::a,[],_=>by simp [mJ]
 |0,x::a,y::b,h=>by simp at h
 |n+1,x::a,y::b,h=>by
  simp only[au]at h
  unfold mJ
  split
  ·have:=uG lt n a (y::b) (by simp only[au];omega)
   exact this.cons x
  ·have:=uG lt n (x::a) b (by simp only[au];omega)
   exact(this.cons y).trans List.perm_middle.symm
theorem xB{α:Type}{lt:α->α->Bool}(tr: ∀x y z,lt x y=true->lt y z=true->lt x z=true): ∀(n:Nat) (a b:List α),a.length+b.length<=n->
  a.Pairwise (λx y=>lt x y=true)->b.Pairwise (λx y=>lt x y=true)->(∀x∈a,∀y∈b,lt x y=true\/lt y x=true)->(mJ lt a b).Pairwise (λx y=>lt x y=true)
 |_,[],b,_,_,hb,_=>by simpa [mJ]using hb
 |_,x::a,[],_,ha,_,_=>by simpa [mJ]using ha
 |0,x::a,y::b,h,_,_,_=>by simp at h
 |n+1,x::a,y::b,h,ha,hb,ht=>by
  simp only[au]at h
  unfold mJ
  have ha':=bD.1 ha
  have hb':=bD.1 hb
  split
  ·rename_i hxy
   refine bD.2 ⟨λz hz=> ?_,xB tr n a (y::b) (by simp only[au];omega) ha'.2 hb (λp hp q hq=>ht p (bg _ hp) q hq)⟩
   have hz:=(uG lt _ a (y::b) (ak _)).mem_iff.1 hz
   rcases aV.1 hz with hz|hz
   ·exact ha'.1 z hz
   ·rcases aH.1 hz with rfl|hz
    ·exact hxy
    ·exact tr _ _ _ hxy (hb'.1 z hz)
  ·rename_i hxy
   have hyx:lt y x=true:=(ht x (bu ..) y (bu ..)).resolve_left hxy
   refine bD.2 ⟨λz hz=> ?_,xB tr n (x::a) b (by simp only[au];omega) ha hb'.2 (λp hp q hq=>ht p hp q (bg _ hq))⟩
   have hz:=(uG lt _ (x::a) b (ak _)).mem_iff.1 hz
   rcases aV.1 hz with hz|hz
   ·rcases aH.1 hz with rfl|hz
    ·exact hyx
    ·exact tr _ _ _ hyx (ha'.1 z hz)
   ·exact hb'.1 z hz
/-! ### Terms where they stand -/
abbrev nV:=jM×Int×Int
abbrev yj:=kZ×Int
def DX(byPlace:Bool)(a b:nV):Bool:=if byPlace then decide (a.2.2<b.2.2)else decide (uh (jU a.1) (jU b.1)<0) || (decide (uh (jU a.1) (jU b.1)=0) && decide (a.2.2<b.2.2))
theorem aao(k:Bool)(x y z:nV)(h1:DX k x y=true)(h2:DX k y z=true):DX k x z=true:=by
 unfold DX at*
 cases k
 ·simp only[aD,aW,dW,aM,aL]at*
  rcases h1 with h1|⟨h1,g1⟩<;>rcases h2 with h2|⟨h2,g2⟩
  ·exact .inl (VV h1 h2)
  ·rw[vg]at h2;rw[<-h2];exact .inl h1
  ·rw[vg]at h1;rw[h1];exact .inl h2
  ·rw[vg]at h1;rw[h1];exact .inr ⟨h2,zO⟩
 ·simp only[bv,aL]at*
  omega
theorem agL(k:Bool)(x y:nV)(h:x.2.2≠y.2.2):DX k x y=true\/DX k y x=true:=by
 unfold DX
 cases k
 ·simp only[aD,aW,dW,aM,aL]
  have ha:=ER (jU x.1) (jU y.1)
  by_cases h0:uh (jU x.1) (jU y.1)=0
  ·by_cases hl:x.2.2<y.2.2
   ·exact .inl (.inr ⟨h0,hl⟩)
   ·exact .inr (.inr ⟨zO,zO⟩)
  ·by_cases hl:uh (jU x.1) (jU y.1)<0
   ·exact .inl (.inl hl)
   ·exact .inr (.inl zO)
 ·simp only[bv,aL]
  omega
def yl(k:Bool)(l r:List nV):Prop:=r.Perm l/\r.Pairwise λx y=>DX k x y=true
def wH(l:List nV):Prop:=l.Pairwise λx y=>x.2.2≠y.2.2
theorem wH.app{a b:List nV}(h:wH (a++b)):wH a/\wH b/\ ∀x∈a,∀y∈b,x.2.2≠y.2.2:=List.pairwise_append.1 h
theorem yl.merge{a b ra rb:List nV}(hd:wH (a++b))(ha:yl k a ra)(hb:yl k b rb):yl k (a++b) (mJ (DX k) ra rb):=by
 refine⟨(uG _ _ _ _ (ak _)).trans (ha.1.append hb.1),xB (aao k) _ _ _ (ak _) ha.2 hb.2 λx hx y hy=>agL k x y ?_⟩
 exact hd.app.2.2 x (ha.1.mem_iff.1 hx) y (hb.1.mem_iff.1 hy)
theorem yl.small{l:List nV}(h:l.length<2):yl k l l:=by
 refine⟨.refl _,?_⟩
 match l,h with
 |[],_=>exact .nil
 |[x],_=>exact List.pairwise_singleton _ _
 |_::_::_,h=>simp at h;omega
theorem JB: ∀{a b:List nV},(a.Pairwise λx y=>x.2.2<y.2.2)->(b.Pairwise λx y=>x.2.2<y.2.2)->(∀x,x∈a↔x∈b)->a=b
 |[],[],_,_,_=>rfl
 |[],y::b,_,_,h=>by have:=(h y).2 (bu ..);simp at this
 |x::a,[],_,_,h=>by have:=(h x).1 (bu ..);simp at this
 |x::a,y::b,ha,hb,h=>by
  have ha':=bD.1 ha
  have hb':=bD.1 hb
  have hxy:x=y:=by
   rcases aH.1 ((h x).1 (bu ..))with e|e
   ·exact e
   ·rcases aH.1 ((h y).2 (bu ..))with e'|e'
    ·exact e'.symm
    ·have:=ha'.1 y e'
     have:=hb'.1 x e
     omega
  subst hxy
  congr 1
  refine JB ha'.2 hb'.2 λz=> ?_
  constructor
  ·intro hz
   rcases aH.1 ((h z).1 (bg _ hz))with rfl|e
   ·have:=ha'.1 z hz;omega
   ·exact e
  ·intro hz
   rcases aH.1 ((h z).2 (bg _ hz))with rfl|e
   ·have:=hb'.1 z hz;omega
   ·exact e
/-! ### First comings -/
def kL:List jK->List nV->List nV
 |_,[]=>[]
 |seen,x::l=>if x.1.1=4\/jU x.1∈seen then kL seen l else x::kL (seen++[jU x.1]) l
def isK(x:nV):Bool:= !decide (x.1.1=4)
def wR:Option jK->List nV->List nV
 |_,[]=>[]
 |p,x::l=>if p=some (jU x.1)then wR p l else x::wR (some (jU x.1)) l
theorem rW: ∀(l:List nV) (seen:List jK),(kL seen l).Sublist l
 |[],_=>by simp [kL]
 |x::l,seen=>by
  unfold kL
  split
  ·exact(rW l seen).cons x
  ·exact(rW l _).cons_cons x
theorem Av: ∀{l:List nV} {seen:List jK} {x:nV},(l.Pairwise λx y=>x.2.2<y.2.2)->(x∈kL seen l↔x∈l/\x.1.1≠4/\jU x.1 ∉ seen/\ ∀y∈l,jU y.1=jU x.1->x.2.2<=y.2.2)
 |[],_,_,_=>by simp [kL]
 |z::l,seen,x,hp=>by
  have hp':=bD.1 hp
  unfold kL
  split
  ·rename_i hz
   rw[Av hp'.2]
   constructor
   ·rintro ⟨h1,h2,h3,h4⟩
    refine⟨bg _ h1,h2,h3,λy hy he=> ?_⟩
    rcases aH.1 hy with rfl|hy
    ·exfalso
     rcases hz with hz|hz
     ·apply h2;have:(jU y.1).1=(jU x.1).1:=by rw[he]
      exact this.symm.trans hz
     ·rw[he]at hz;exact h3 hz
    ·exact h4 y hy he
   ·rintro ⟨h1,h2,h3,h4⟩
    rcases aH.1 h1 with rfl|h1
    ·exfalso
     rcases hz with hz|hz
     ·exact h2 hz
     ·exact h3 hz
    ·exact⟨h1,h2,h3,λy hy he=>h4 y (bg _ hy) he⟩
  ·rename_i hz
   have hz4:z.1.1≠4:=λe=>hz (.inl e)
   have hzs:jU z.1 ∉ seen:=λe=>hz (.inr e)
   rw[aH,Av hp'.2]
   constructor
   ·rintro (rfl|⟨h1,h2,h3,h4⟩)
    ·refine⟨bu ..,hz4,hzs,λy hy he=> ?_⟩
     rcases aH.1 hy with rfl|hy
     ·exact jc _
     ·exact Int.le_of_lt (hp'.1 y hy)
    ·rw[aV,aY]at h3
     refine⟨bg _ h1,h2,λe=>h3 (.inl e),λy hy he=> ?_⟩
     rcases aH.1 hy with rfl|hy
     ·exact absurd he.symm λe=>h3 (.inr e)
     ·exact h4 y hy he
   ·rintro ⟨h1,h2,h3,h4⟩
    rcases aH.1 h1 with rfl|h1
    ·exact .inl rfl
    ·refine .inr ⟨h1,h2,?_,λy hy he=>h4 y (bg _ hy) he⟩
     rw[aV,aY]
     rintro (e|e)
     ·exact h3 e
     ·have h5:=h4 z (bu ..) e.symm
      have h6:=hp'.1 x h1
      omega
theorem ym: ∀(l:List nV) (p:Option jK),(wR p l).Sublist l
 |[],_=>by simp [wR]
 |x::l,p=>by
  unfold wR
  split
  ·exact(ym l p).cons x
  ·exact(ym l _).cons_cons x
theorem BF{x y:nV}:DX false x y=true↔uh (jU x.1) (jU y.1)<0\/(uh (jU x.1) (jU y.1)=0/\x.2.2<y.2.2):=by
 unfold DX;simp only[aD,aW,dW,aM,aL]
theorem JC{x y:nV}:DX true x y=true↔x.2.2<y.2.2:=by
 unfold DX;simp only[bv,aL]
theorem JD: ∀{l:List nV} {p:Option jK} {x:nV},(l.Pairwise λx y=>DX false x y=true)->(∀c,p=some c-> ∀y∈l,uh c (jU y.1)<=0)->
  (x∈wR p l↔x∈l/\p≠some (jU x.1)/\ ∀y∈l,jU y.1=jU x.1->x.2.2<=y.2.2)
 |[],_,_,_,_=>by simp [wR]
 |z::l,p,x,hp,hc=>by
  have hp':=bD.1 hp
  unfold wR
  split
  ·rename_i hz
   rw[JD hp'.2 (λc e y hy=>hc c e y (bg _ hy))]
   constructor
   ·rintro ⟨h1,h2,h3⟩
    refine⟨bg _ h1,h2,λy hy he=> ?_⟩
    rcases aH.1 hy with rfl|hy
    ·exact absurd (hz.trans (by rw[he])) h2
    ·exact h3 y hy he
   ·rintro ⟨h1,h2,h3⟩
    rcases aH.1 h1 with rfl|h1
    ·exact absurd hz h2
    ·exact⟨h1,h2,λy hy he=>h3 y (bg _ hy) he⟩
  ·rename_i hz
   have hzl: ∀c,some (jU z.1)=some c-> ∀y∈l,uh c (jU y.1)<=0:=by
    intro c e y hy
    cases e
    rcases BF.1 (hp'.1 y hy)with h|h<;>omega
   rw[aH,JD hp'.2 hzl]
   constructor
   ·rintro (rfl|⟨h1,h2,h3⟩)
    ·refine⟨bu ..,hz,λy hy he=> ?_⟩
     rcases aH.1 hy with rfl|hy
     ·exact jc _
     ·rcases BF.1 (hp'.1 y hy)with h|h
      ·rw[he,vg.2 rfl]at h;omega
      ·exact Int.le_of_lt h.2
    ·refine⟨bg _ h1,λe=> ?_,λy hy he=> ?_⟩
     ·-- the run's constant lies ahead of z
      have g1:=hc _ e z (bu ..)
      have g2:uh (jU x.1) (jU z.1)≠0:=λh0=>h2 (by rw[vg.1 h0])
      have g3:=hzl _ rfl x h1
      have g4:=ER (jU x.1) (jU z.1)
      omega
     ·rcases aH.1 hy with rfl|hy
      ·exact absurd (by rw[he]) h2
      ·exact h3 y hy he
   ·rintro ⟨h1,h2,h3⟩
    rcases aH.1 h1 with rfl|h1
    ·exact .inl rfl
    ·refine .inr ⟨h1,λe=> ?_,λy hy he=>h3 y (bg _ hy) he⟩
     have e:=bR e
     have h5:=h3 z (bu ..) e
     rcases BF.1 (hp'.1 x h1)with h|h
     ·rw[e,vg.2 rfl]at h;omega
     ·omega
theorem aaq{l s r:List nV}(hl:l.Pairwise λx y=>x.2.2<y.2.2)(hs:yl false (l.filter isK) s)(hr:yl true (wR none s) r):r=kL [] l:=by
 refine JB (hr.2.imp λh=>JC.1 h) (hl.sublist (rW l [])) λx=> ?_
 rw[hr.1.mem_iff,JD hs.2 (λc e=>by cases e),Av hl,hs.1.mem_iff,dX]
 constructor
 ·rintro ⟨⟨h1,h2⟩,-,h3⟩
  have h4:x.1.1≠4:=by simpa [isK]using h2
  refine⟨h1,h4,zP,λy hy he=>h3 y ?_ he⟩
  rw[hs.1.mem_iff,dX]
  refine⟨hy,?_⟩
  have:y.1.1=x.1.1:=bA (λc:jK=>c.1) he
  simp [isK,this,h4]
 ·rintro ⟨h1,h2,-,h3⟩
  refine⟨⟨h1,by simp [isK,h2]⟩,zP,λy hy he=>h3 y ?_ he⟩
  rw[hs.1.mem_iff,dX]at hy
  exact hy.1
theorem YA(h:t.1=4\/jU t∈cs):pR cs t=cs:=by unfold pR;rw[ah h]
theorem RV(h: ¬(t.1=4\/jU t∈cs)):pR cs t=cs++[jU t]:=by unfold pR;rw[af h]
theorem wI{x:nV}{l:List nV}{seen:List jK}(h:x.1.1=4\/jU x.1∈seen):kL seen (x::l)=kL seen l:=by rw[kL,ah h]
theorem uH{x:nV}{l:List nV}{seen:List jK}(h: ¬(x.1.1=4\/jU x.1∈seen)):kL seen (x::l)=x::kL (seen++[jU x.1]) l:=by rw[kL,af h]
theorem sU: ∀(l:List nV) (seen:List jK),seen++(kL seen l).map (λx=>jU x.1)=(l.map (·.1)).foldl pR seen
 |[],seen=>by simp [kL]
 |x::l,seen=>by
  rw[aS,bN]
  by_cases h:x.1.1=4\/jU x.1∈seen
  ·rw[wI h,YA h,sU l seen]
  ·have:=sU l (seen++[jU x.1])
   rw[bE]at this
   rw[uH h,RV h,<-this];rfl
theorem Aw: ∀(a b:List nV) (seen:List jK),kL seen (a++b)=kL seen a++kL ((a.map (·.1)).foldl pR seen) b
 |[],b,seen=>by simp [kL]
 |x::a,b,seen=>by
  rw[aP,aS,bN]
  by_cases h:x.1.1=4\/jU x.1∈seen
  ·rw[wI h,wI h,YA h,Aw a b seen]
  ·rw[uH h,uH h,RV h,Aw a b _,aP]
theorem xg: ∀(l:List nV) (seen:List jK),seen.length<=65536->(pG seen (l.map (·.1))).2=((kL seen l)[65536 - seen.length]?).map (·.1)/\((pG seen (l.map (·.1))).2=none->(pG seen (l.map (·.1))).1=(l.map (·.1)).foldl pR seen)
 |[],seen,_=>by simp [pG,kL]
 |x::l,seen,hl=>by
  rw[aS,bN]
  rw[pG]
  by_cases h:x.1.1=4\/jU x.1∈seen
  ·have hv:pR seen x.1=seen:=by unfold pR;rw[ah h]
   rw[wI h,af (by rcases h with h|h<;>simp [h]),hv]
   exact xg l seen hl
  ·have h4:x.1.1≠4:=λe=>h (.inl e)
   have hs:jU x.1 ∉ seen:=λe=>h (.inr e)
   rw[uH h]
   by_cases hz:65536<=seen.length
   ·rw[ah ⟨h4,hs,hz⟩]
    have:65536 - seen.length=0:=zO
    rw[this];simp
   ·rw[af (by simp [hz])]
    have hv:pR seen x.1=seen++[jU x.1]:=by unfold pR;rw[af h]
    rw[hv]
    have ih:=xg l (seen++[jU x.1]) (by rw[ay,aZ];omega)
    have e:65536 - seen.length=(65536 - (seen++[jU x.1]).length)+1:=by rw[ay,aZ];omega
    rw[e,eT]
    exact ih
end Edict
namespace Edict
abbrev Sw:=List UInt8
/-! ### Terms -/
theorem Sy{n:Nat}(h:n<256):(UInt8.ofNat n).toNat=n:=by
 rw[UInt8.toNat_ofNat'];omega
/-! ### Atoms and literals -/
def ahK(a:kZ):Prop:= ∃c:Nat,((97<=c/\c<=109)\/c=122)/\a.2.1.length<=8/\a.1=[UInt8.ofNat c,UInt8.ofNat (48+a.2.1.length)]
/-! ### Bodies -/
/-! ### At most sixteen variables -/
def xu(l:lN):Nat:=(l.filter λs=>decide (s=[95])).length
def ajk(x:jZ):List jM:=if x.1=1 then sW x else []
theorem Sv: ∀(ls:List jZ) (vs:lN),ls.foldl tu vs=(ls.flatMap ajk).foldl kV vs
 |[],_=>rfl
 |x::l,vs=>by
  rw[bN,Sv l,dD,fJ]
  congr 1
  unfold tu ajk sW;split<;>rfl
/-! ### Clauses -/
structure alc (c:jY):Prop where
 w:lw c=0
 names: ∀a∈kJ c,ahK a
 bound:lh c=(0,0,0)
structure alH (a:kZ):Prop where
 g:JE a=true
 n:ahK a
/-! ### Accepted -/
theorem BI{ps:List kK}{s:Sw}:oQ ps s=none↔s ∉ ps.map (·.1):=by
 unfold oQ
 rw[jd,dF]
 constructor
 ·rintro h hs
  obtain⟨x,hx,rfl⟩:=bF.1 hs
  exact h x hx zP
 ·intro h x hx
  simp only[aL]
  rintro rfl
  exact h (bF.2 ⟨x,hx,rfl⟩)
theorem vO{a:kZ}(h:nC a=0):a.2.1.length<=8:=by
 unfold nC at h
 split at h
 ·split at h
  ·cases h
  ·omega
 ·cases h
theorem adN{x:jZ}(h:vk x=0):(kQ x).length<=8:=by
 unfold vk at h
 unfold kQ sW
 by_cases h1:x.1=1\/x.1=2
 ·rw[ah h1]at h ⊢
  split at h
  ·exact vO h
  ·cases h
 ·rw[af h1]
  split<;>simp
theorem qO{α:Type}{f:α->Int}: ∀{l:List α},ng f l=0-> ∀x∈l,f x=0
 |[],_,x,h=>by simp at h
 |y::l,hf,x,h=>by
  rw[ng]at hf
  split at hf
  ·rename_i e
   rcases aH.1 h with rfl|h
   ·exact e
   ·exact qO hf x h
  ·rename_i e;exact absurd hf e
theorem Ed{α β:Type}{f:α->List β}{n:Nat}: ∀{l:List α},(∀x∈l,(f x).length<=n)->(l.flatMap f).length<=l.length*n
 |[],_=>by simp
 |x::l,h=>by
  have h1:=Ed (l:=l) λy hy=>h y (bg _ hy)
  have h2:=h x (bu ..)
  rw[dD,ay,au,fC];omega
theorem FV{c:jY}(h:lw c=0):(kC c).length<=136:=by
 unfold lw at h
 split at h
 ·rename_i ha
  split at h
  ·cases h
  ·have h1:=vO ha
   have h2:=Ed (f:=kQ) (n:=8) (l:=c.2) λx hx=>adN (qO h x hx)
   unfold kC
   rw[ay];omega
 ·rename_i ha;exact absurd h ha
theorem ahJ{a:kZ}(h:JE a=true):nC a=0:=by
 unfold JE at h
 rw[aM,aL]at h
 exact h.1
def Gv(vs:lN):Prop:= ∀i s,vs[i]? =some s->s≠[95]->s ∉ vs.take i
theorem Ms{vs:lN}(h:Gv vs)(t:jM):Gv (kV vs t):=by
 unfold kV
 split
 ·rename_i hc
  intro i s hs h95
  by_cases hi:i<vs.length
  ·rw[bM hi]at hs
   rw[fH zO]
   exact h i s hs h95
  ·have hl:=(aB.1 hs).1
   simp only[ay,aZ]at hl
   obtain rfl:i=vs.length:=zO
   rw[dA (ak _),Nat.sub_self]at hs
   simp only[bO,aQ]at hs
   subst hs
   rw[fH (ak _),aK]
   exact hc.2.elim (λh=>absurd h h95) id
 ·exact h
theorem EX: ∀(l:List jM) {vs:lN},Gv vs->Gv (l.foldl kV vs)
 |[],_,h=>h
 |t::l,_,h=>EX l (Ms h t)
theorem aaz(ls:List jZ):Gv (jF ls):=by
 have:jF ls=(ls.flatMap ajk).foldl kV []:=Sv _ _
 rw[this]
 exact EX _ (λi s h=>by simp at h)
def ajj:Nat->List uL->Option Nat
 |n,[]=>some n
 |n,s::l=>if s.1 then(if s.2<0\/(n:Int)<s.2 then none else ajj (if s.2=n then n+1 else n) l)else ajj n l
def akU:Nat->List mV->Option Nat
 |n,[]=>some n
 |n,p::l=>match ajj n p.2 with
  |some m=>akU m l
  |none=>none
def Wm(n:Nat)(l:List uL):Bool:=l.all λs=> !(s.1 && (decide (s.2<0) || decide ((n:Int)<=s.2)))
structure alz (r:oq):Prop where
 few:r.2.2.2.2.1.length<=16
 num:akU 0 r.2.1=some r.2.2.2.2.1.length
 head:Wm r.2.2.2.2.1.length r.1.2=true
 neg: ∀p∈r.2.2.2.1,Wm r.2.2.2.2.1.length p.2=true
 test: ∀t∈r.2.2.1,Wm r.2.2.2.2.1.length [t.2.1,t.2.2]=true
 Gv:Gv r.2.2.2.2.1
theorem FU{c:jY}(h:lh c=(0,0,0)):qM [] (kC c)=none/\wJ c=none:=by
 unfold lh at h
 cases hc:qM [] (kC c)with
 |some t=>rw[hc]at h;cases h
 |none=>
  rw[hc]at h
  cases hl:wJ c with
  |some t=>rw[hl]at h;cases h
  |none=>exact⟨rfl,rfl⟩
theorem Cz: ∀{p:List jY},mF p=(0,0,0)-> ∀c∈p,lh c=(0,0,0)
 |[],_,c,h=>by simp at h
 |d::p,hb,c,h=>by
  rw[mF]at hb
  split at hb
  ·rename_i hd
   rcases aH.1 h with rfl|h
   ·exact hd
   ·exact Cz hb c h
  ·rename_i hd;exact absurd hb hd
variable {a:kZ} {c:jY} {cs:List jK} {n:Int} {p:List jY} {ps:List kK} {t:jM} {vs:lN}
def EP{κ:Type} [DecidableEq κ](l:List κ)(s:κ):Int:=(nJ l s).getD (-1)
theorem Yv{κ:Type} [DecidableEq κ]{l:List κ}{s:κ}(h:s∈l):EP l s=wK l s:=by unfold EP wK nJ;rw[ah h];rfl
theorem Jr{κ:Type} [DecidableEq κ]{l:List κ}{s:κ}(h:s ∉ l):EP l s= -1:=by unfold EP nJ;rw[af h];rfl
def lW(ps:List kK)(s:Sw):Int:=EP (ps.map (·.1)) s
theorem DR{s:Sw}(h:s∈ps.map (·.1)):lW ps s=uI ps s:=Yv h
theorem yg{κ:Type} [DecidableEq κ]{l:List κ}{s:κ}{i:Nat}(hn:s ∉ l.take i)(hi:l[i]? =some s):EP l s=i:=by
 have hm:s∈l:=aF hi
 unfold EP nJ
 rw[ah hm]
 show((l.idxOf s:Nat):Int)=i
 have e:l=l.take i++l.drop i:=(bV i l).symm
 have hl:=(aB.1 hi).1
 have hd:l.drop i=s::l.drop (i+1):=by
  obtain⟨h1,h2⟩:=aB.1 hi
  rw[aN h1,h2]
 rw[e,gK,af hn,hd,List.idxOf_cons_self,aR]
 omega
theorem Js: ∀{ps:List kK} {s:Sw} {i:Nat} {n:Int},s ∉ (ps.map (·.1)).take i->ps[i]? =some (s,n)->oQ ps s=some n
 |[],_,_,_,_,h=>by simp at h
 |p::ps,s,0,n,_,h=>by
  simp only[bO,aQ]at h
  subst h
  simp [oQ]
 |p::ps,s,i+1,n,hn,h=>by
  simp only[aS,dY,aH,not_or]at hn
  have ih:=Js (ps:=ps) hn.2 (by simpa using h)
  unfold oQ at ih ⊢
  rw[fF (by simpa using λe=>hn.1 e.symm)]
  exact ih
/-! ### Names -/
def sP:List kK->List yj->List kK×BP
 |ps,[]=>(ps,0,0,0)
 |ps,(a,k)::l=>match oQ ps a.1 with
  |some n=>if n=a.2.1.length then sP ps l else([],30,k,a.2.2)
  |none=>if 128<=ps.length then([],31,k,a.2.2)else sP (ps++[(a.1,(a.2.1.length:Int))]) l
theorem DT(ps:List kK)(a:kZ)(k:Int)(l:List yj):sP ps ((a,k)::l)=match oQ ps a.1 with
  |some n=>if n=a.2.1.length then sP ps l else([],30,k,a.2.2)
  |none=>if 128<=ps.length then([],31,k,a.2.2)else sP (ps++[(a.1,(a.2.1.length:Int))]) l:=rfl
theorem vJ(k:Int): ∀(l:List kZ) (ps:List kK),sP ps (l.map λa=>(a,k))=if(kv ps l).2.1=0 then((kv ps l).1,0,0,0)else([],(kv ps l).2.1,k,(kv ps l).2.2)
 |[],ps=>by simp [sP,kv]
 |a::l,ps=>by
  rw[aS]
  unfold sP kv
  cases oQ ps a.1 with
  |some n=>
   simp only
   split
   ·exact vJ k l ps
   ·simp
  |none=>
   simp only
   split
   ·simp
   ·exact vJ k l _
theorem GU: ∀(a b:List yj) (ps:List kK),sP ps (a++b)=if(sP ps a).2.1=0 then sP (sP ps a).1 b else sP ps a
 |[],b,ps=>by simp [sP]
 |(x,k)::a,b,ps=>by
  rw[aP,DT ps x k (a++b),DT ps x k a]
  cases oQ ps x.1 with
  |some n=>
   simp only
   by_cases e:n=(x.2.1.length:Int)
   ·rw[ah e,ah e];exact GU a b ps
   ·rw[af e,af e];simp
  |none=>
   simp only
   by_cases e:128<=ps.length
   ·rw[ah e,ah e];simp
   ·rw[af e,af e];exact GU a b _
theorem rV: ∀(l:List kZ) (ps:List kK),((kv ps l).2.1=0/\(kv ps l).2.2=0/\(kv ps l).1=l.foldl ru ps)\/(kv ps l).2.1=30\/(kv ps l).2.1=31
 |[],ps=>by simp [kv]
 |a::l,ps=>by
  unfold kv
  rw[bN]
  cases h:oQ ps a.1 with
  |some n=>
   simp only
   split
   ·have hm:a.1∈ps.map (·.1):=by
     refine dw λhn=> ?_
     rw[BI.2 hn]at h;cases h
    have e:ru ps a=ps:=by unfold ru;rw[ah hm]
    rw[e];exact rV l ps
   ·exact .inr (.inl rfl)
  |none=>
   simp only
   split
   ·exact .inr (.inr rfl)
   ·have hm:=BI.1 h
    have e:ru ps a=ps++[(a.1,(a.2.1.length:Int))]:=by unfold ru;rw[af hm]
    rw[e];exact rV l _
theorem VT{s t:Sw}{m:Int}(h:oQ ps s=some n):oQ (ps++[(t,m)]) s=some n:=by
 unfold oQ at h ⊢
 rw[iE]
 cases hf:ps.find? λp=>decide (p.1=s)with
 |none=>rw[hf]at h;cases h
 |some x=>rw[hf]at h;simpa using h
theorem wE: ∀{l:List kZ} {ps:List kK} {s:Sw} {n:Int},(kv ps l).2.1=0->oQ ps s=some n->oQ (kv ps l).1 s=some n
 |[],_,_,_,_,h=>h
 |a::l,ps,s,n,h0,h=>by
  unfold kv at h0 ⊢
  cases hc:oQ ps a.1 with
  |some k=>
   rw[hc]at h0
   simp only at h0 ⊢
   split
   ·rename_i e;rw[ah e]at h0;exact wE h0 h
   ·rename_i e;rw[af e]at h0;cases h0
  |none=>
   rw[hc]at h0
   simp only at h0 ⊢
   split
   ·rename_i e;rw[ah e]at h0;cases h0
   ·rename_i e;rw[af e]at h0;exact wE h0 (VT h)
theorem DU: ∀{l:List kZ} {ps:List kK},(kv ps l).2.1=0-> ∀a∈l,oQ (kv ps l).1 a.1=some (a.2.1.length:Int)
 |[],_,_,a,ha=>by simp at ha
 |b::l,ps,h0,a,ha=>by
  unfold kv at h0 ⊢
  cases hc:oQ ps b.1 with
  |some k=>
   rw[hc]at h0
   simp only at h0 ⊢
   split
   ·rename_i e
    rw[ah e]at h0
    rcases aH.1 ha with rfl|ha
    ·exact wE h0 (by rw[hc,e])
    ·exact DU h0 a ha
   ·rename_i e;rw[af e]at h0;cases h0
  |none=>
   rw[hc]at h0
   simp only at h0 ⊢
   split
   ·rename_i e;rw[ah e]at h0;cases h0
   ·rename_i e
    rw[af e]at h0
    rcases aH.1 ha with rfl|ha
    ·refine wE h0 ?_
     unfold oQ
     rw[iE]
     have:(ps.find? λp=>decide (p.1=a.1))=none:=by
      unfold oQ at hc
      cases hf:ps.find? λp=>decide (p.1=a.1)with
      |none=>rfl
      |some x=>rw[hf]at hc;cases hc
     rw[this];simp
    ·exact DU h0 a ha
def kI(p:List jY)(fs:List kZ):List yj:=(p.flatMap kJ).map (λa=>(a,(0:Int)))++fs.map (λa=>(a,(1:Int)))
def wF(p:List jY)(fs:List kZ):BP:=
 if qI p≠0 then(qI p,0,0)
 else if 4096<fs.length then(24,1,0)
 else match fs.find? λa=> !JE a with
  |some a=>(2,1,a.2.2)
  |none=>(0,0,0)
theorem VU(p:List jY)(fs:List kZ):qG p fs=if wF p fs≠(0,0,0)then wF p fs else(sP [] (kI p fs)).2:=by
 unfold qG wF
 by_cases h1:qI p≠0
 ·rw[ah h1,ah h1,ah (by simp [h1])]
 ·rw[af h1,af h1]
  by_cases h2:4096<fs.length
  ·rw[ah h2,ah h2,ah zP]
  ·rw[af h2,af h2]
   cases hf:fs.find? λa=> !JE a with
   |some a=>simp
   |none=>
    simp only[ne_eq,not_true_eq_false,aW]
    unfold kI
    rw[GU,vJ]
    have hc:=rV (p.flatMap kJ) []
    generalize kv [] (p.flatMap kJ)=r at hc ⊢
    obtain⟨P,c,o⟩:=r
    simp only at hc
    rcases hc with⟨rfl,rfl,-⟩|rfl|rfl
    ·simp only[bv]
     rw[vJ]
     have hk:=rV fs P
     generalize kv P fs=r at hk ⊢
     obtain⟨P',c',o'⟩:=r
     simp only at hk
     rcases hk with⟨rfl,rfl,-⟩|rfl|rfl
     ·simp
     ·rfl
     ·rfl
    ·rfl
    ·rfl
/-! ### Constants -/
def lT:Nat->List (jM×Int)->List nV
 |_,[]=>[]
 |n,(t,k)::l=>(t,k,(n:Int))::lT (n+1) l
theorem Aq: ∀(l:List (jM×Int)) (n:Nat),(lT n l).length=l.length
 |[],_=>rfl
 |(t,k)::l,n=>by rw[lT,au,au,Aq l]
theorem Jt: ∀(a b:List (jM×Int)) (n:Nat),lT n (a++b)=lT n a++lT (n+a.length) b
 |[],b,n=>by simp [lT]
 |(t,k)::a,b,n=>by
  rw[aP,lT,lT,Jt a b (n+1),aP,au]
  congr 3;omega
theorem Ar: ∀(l:List (jM×Int)) (n:Nat),(lT n l).map (·.1)=l.map (·.1)
 |[],_=>rfl
 |(t,k)::l,n=>by rw[lT,aS,aS,Ar l]
theorem Yw: ∀(l:List (jM×Int)) (n:Nat),∀x∈lT n l,(n:Int)<=x.2.2
 |[],_,x,h=>by simp [lT]at h
 |(t,k)::l,n,x,h=>by
  rw[lT]at h
  rcases aH.1 h with rfl|h
  ·exact jc _
  ·have:=Yw l (n+1) x h;omega
theorem Oh: ∀(l:List (jM×Int)) (n:Nat),(lT n l).Pairwise λx y=>x.2.2<y.2.2
 |[],_=> .nil
 |(t,k)::l,n=>by
  rw[lT]
  refine bD.2 ⟨λy hy=> ?_,Oh l (n+1)⟩
  have:=Yw l (n+1) y hy
  show(n:Int)<y.2.2
  omega
theorem EQ: ∀(l:List (jM×Int)) (n:Nat) {k:Int},(∀x∈l,x.2=k)-> ∀x∈lT n l,x.2.1=k
 |[],_,_,_,x,h=>by simp [lT]at h
 |(t,j)::l,n,k,hk,x,h=>by
  rw[lT]at h
  rcases aH.1 h with rfl|h
  ·exact hk (t,j) (bu ..)
  ·exact EQ l (n+1) (λy hy=>hk y (bg _ hy)) x h
def wQ(p:List jY):List (jM×Int):=(p.flatMap kC).map λt=>(t,(0:Int))
def Au(fs:List kZ):List (jM×Int):=(fs.flatMap (·.2.1)).map λt=>(t,(1:Int))
def sQ(p:List jY)(fs:List kZ):List nV:=lT 0 (wQ p++Au fs)
theorem Ju: ∀(a b:List jM) (cs:List jK),pG cs (a++b)=match pG cs a with|(cs',none)=>pG cs' b|(cs',some t)=>(cs',some t)
 |[],b,cs=>by simp [pG]
 |t::a,b,cs=>by
  have hc: ∀l,pG cs (t::l)=if t.1≠4/\jU t ∉ cs/\65536<=cs.length then(cs,some t)else pG (pR cs t) l:=λ_=>rfl
  rw[aP,hc,hc]
  by_cases e:t.1≠4/\jU t ∉ cs/\65536<=cs.length
  ·rw[ah e,ah e]
  ·rw[af e,af e];exact Ju a b _
theorem Mh: ∀(l:List jY) (ps:List kK) (cs:List jK),(tT (ps,cs) l).2=(pG cs (l.flatMap kC)).2/\((tT (ps,cs) l).2=none->(tT (ps,cs) l).1=((l.flatMap kJ).foldl ru ps,(pG cs (l.flatMap kC)).1))
 |[],ps,cs=>by simp [tT,pG]
 |c::l,ps,cs=>by
  rw[dD,dD,fJ,Ju]
  unfold tT
  rcases hv:pG cs (kC c)with⟨cs',o⟩
  cases o with
  |none=>simp only;exact Mh l _ cs'
  |some t=>simp
theorem Mi: ∀(l:List kZ) (cs:List jK),yn cs l=pG cs (l.flatMap (·.2.1))
 |[],cs=>by simp [yn,pG]
 |a::l,cs=>by
  rw[dD,Ju]
  unfold yn
  rcases hv:pG cs a.2.1 with⟨cs',o⟩
  cases o with
  |none=>simp only;exact Mi l cs'
  |some t=>rfl
/-! ### Rules, rows -/
def qE(cs:List jK)(vs:lN)(t:jM):uL:=if t.1=4 then(true,EP vs t.2.2.1)else(false,wK cs (jU t))
def qL(cs:List jK):lN->List jM->List uL
 |_,[]=>[]
 |vs,t::l=>(if kF vs t then(true,(vs.length:Int))else qE cs vs t)::qL cs (kV vs t) l
theorem vK:kF vs t=true↔t.1=4/\(t.2.2.1=[95]\/t.2.2.1 ∉ vs):=by
 unfold kF;simp
theorem aam{s:Sw}(hu:Gv vs)(h95:s≠[95])(h:s∈vs):EP vs s=Ay vs s:=by
 have hr:=List.mem_reverse.2 h
 have hi:=dL hr
 have e:vs.reverse[vs.reverse.idxOf s]'hi=s:=gB hi
 rw[List.getElem_reverse]at e
 rw[List.length_reverse]at hi
 have hg:vs[vs.length - 1 - vs.reverse.idxOf s]? =some s:=by rw[bf zO,e]
 rw[yg (hu _ s hg h95) hg]
 unfold Ay ol
 rw[ah h];rfl
theorem DV(hu:Gv vs)(hl:kF vs t=false):qE cs vs t=mi cs vs t:=by
 unfold qE mi
 split
 ·rename_i h4
  have: ¬(t.1=4/\(t.2.2.1=[95]\/t.2.2.1 ∉ vs)):=λh=>by rw[vK.2 h]at hl;cases hl
  have h95:t.2.2.1≠[95]:=λe=>this ⟨h4,.inl e⟩
  have hm:t.2.2.1∈vs:=dw λe=>this ⟨h4,.inr e⟩
  rw[aam hu h95 hm]
 ·rfl
theorem Mj(cs:List jK): ∀(l:List jM) (vs:lN),Gv vs->qL cs vs l=rQ cs vs l
 |[],_,_=>rfl
 |t::l,vs,hu=>by
  unfold qL rQ
  rw[Mj cs l _ (Ms hu t)]
  congr 1
  unfold ahH
  by_cases h:kF vs t=true
  ·rw[ah h]
   have h':=vK.1 h
   have hv:kV vs t=vs++[t.2.2.1]:=by unfold kV;rw[ah h']
   rw[hv]
   unfold mi Ay
   rw[ah h'.1,Cw,ah rfl];rfl
  ·have h:kF vs t=false:=by simpa using h
   have hv:kV vs t=vs:=by unfold kV;rw[af λe=>by rw[vK.2 e]at h;cases h]
   rw[af (by simp [h]),hv]
   exact DV hu h
def yh(ps:List kK)(cs:List jK):lN->List jZ->List mV
 |_,[]=>[]
 |vs,l::r=>if l.1=1 then(lW ps l.2.1.1,qL cs vs l.2.1.2.1)::yh ps cs (tu vs l) r else yh ps cs vs r
def Yx(cs:List jK)(vs:lN)(l:jZ):Test:=(l.2.2.1,qE cs vs l.2.2.2.1,qE cs vs l.2.2.2.2.1)
def Oi(ps:List kK)(cs:List jK)(vs:lN)(a:kZ):mV:=(lW ps a.1,a.2.1.map (qE cs vs))
def rO(cs:List jK)(vs:lN)(ls:List jZ):List Test:=(ls.filter λl=>decide (l.1=3)).map (Yx cs vs)
def wG(ps:List kK)(cs:List jK)(vs:lN)(ls:List jZ):List mV:=(ls.filter λl=>decide (l.1=2)).map λl=>Oi ps cs vs l.2.1
def Jv(ps:List kK)(cs:List jK)(n:Int)(c:jY):oq:=(Oi ps cs (jF c.2) c.1,yh ps cs [] c.2,rO cs (jF c.2) c.2,wG ps cs (jF c.2) c.2,jF c.2,n)
def xA(ps:List kK)(cs:List jK)(a:kZ):sj:=(lW ps a.1,a.2.1.map λt=>wK cs (jU t))
def qF(l:List sj)(r:sj):List sj:=if r∈l then l else l++[r]
def rP(ps:List kK)(cs:List jK)(st:List oq×List sj)(n:Nat)(c:jY):List oq×List sj:=
 if c.2=[]then(st.1,qF st.2 (xA ps cs c.1))else(st.1++[Jv ps cs n c],st.2)
def nY(ps:List kK)(cs:List jK):List oq×List sj->Nat->List jY->List oq×List sj
 |st,_,[]=>st
 |st,n,c::l=>nY ps cs (rP ps cs st n c) (n+1) l
def adz(p:List jY)(fs:List kZ)(ps:List kK)(cs:List jK):Gn:=
 (ps,cs,(nY ps cs ([],[]) 0 p).1,fs.foldl (λl a=>qF l (xA ps cs a)) (nY ps cs ([],[]) 0 p).2)
def yR(p:List jY)(fs:List kZ):Gn×BP:=
 if wF p fs≠(0,0,0)then(qH,wF p fs)
 else if(sP [] (kI p fs)).2≠(0,0,0)then(qH,(sP [] (kI p fs)).2)
 else if mF p≠(0,0,0)then(qH,mF p)
 else match(kL [] (sQ p fs))[65536]? with
  |some x=>(qH,6,x.2.1,x.1.2.2.2)
  |none=>(adz p fs (sP [] (kI p fs)).1 ((kL [] (sQ p fs)).map λx=>jU x.1),0,0,0)
theorem Oj(ps:List kK)(cs:List jK): ∀(ls:List jZ) (vs:lN),Gv vs->(∀x∈ls,x.1=1->x.2.1.1∈ps.map (·.1))->yh ps cs vs ls=ry ps cs vs ls
 |[],_,_,_=>rfl
 |x::ls,vs,hu,hp=>by
  unfold yh ry
  have hp': ∀y∈ls,y.1=1->y.2.1.1∈ps.map (·.1):=λy hy=>hp y (bg _ hy)
  split
  ·rename_i h1
   rw[DR (hp x (bu ..) h1),Mj cs _ vs hu,Oj ps cs ls _ ?_ hp']
   unfold tu;rw[ah h1];exact EX _ hu
  ·exact Oj ps cs ls vs hu hp'
theorem Yy{l:List jM}(hu:Gv vs)(h: ∀t∈l,kF vs t=false):l.map (qE cs vs)=l.map (mi cs vs):=fE λt ht=>DV hu (h t ht)
theorem adA(hb:lh c=(0,0,0))(hp: ∀a∈kJ c,a.1∈ps.map (·.1)):Jv ps cs n c=RY ps cs n c:=by
 have hl:=(FU hb).2
 have hlo: ∀t∈oU c,kF (jF c.2) t=false:=by
  unfold wJ at hl
  rw[dF]at hl
  intro t ht
  simpa using hl t ht
 have hask: ∀x∈c.2,∀t∈tq x,kF (jF c.2) t=false:=λx hx t ht=>hlo t (by unfold oU;exact aV.2 (.inr (dG.2 ⟨x,hx,ht⟩)))
 have hu:=aaz c.2
 have hpl: ∀x∈c.2,x.1=1\/x.1=2->x.2.1.1∈ps.map (·.1):=λx hx hk=>hp x.2.1 (by unfold kJ mU;exact bg _ (bF.2 ⟨x,dX.2 ⟨hx,by unfold YC;simpa using hk⟩,rfl⟩))
 unfold Jv RY YD
 have e1:Oi ps cs (jF c.2) c.1=RX ps cs (jF c.2) c.1:=by
  unfold Oi RX
  rw[DR (hp c.1 (by unfold kJ;exact bu ..)),Yy hu λt ht=>hlo t (by unfold oU;exact aV.2 (.inl ht))]
 have e2:yh ps cs [] c.2=ry ps cs [] c.2:=Oj ps cs c.2 [] (λi s h=>by simp at h) λx hx h1=>hpl x hx (.inl h1)
 have e3:rO cs (jF c.2) c.2=mK cs (jF c.2) c.2:=by
  unfold rO mK
  refine fE λx hx=> ?_
  obtain⟨hx,hk⟩:=dX.1 hx
  have hk:x.1=3:=of_decide_eq_true hk
  have ha: ∀t∈[x.2.2.2.1,x.2.2.2.2.1],kF (jF c.2) t=false:=λt ht=>hask x hx t (by unfold tq;rw[af zO,ah hk];exact ht)
  unfold Yx adD
  rw[DV hu (ha _ zP),DV hu (ha _ zP)]
 have e4:wG ps cs (jF c.2) c.2=om ps cs (jF c.2) c.2:=by
  unfold wG om
  refine fE λx hx=> ?_
  obtain⟨hx,hk⟩:=dX.1 hx
  have hk:x.1=2:=of_decide_eq_true hk
  unfold Oi RX
  rw[DR (hpl x hx (.inr hk)),Yy hu λt ht=>hask x hx t (by unfold tq;rw[ah hk];exact ht)]
 rw[e1,e2,e3,e4]
def InP(ps:List kK)(a:kZ):Prop:=a.1∈ps.map (·.1)/\a.2.1.length<=8/\oQ ps a.1=some (a.2.1.length:Int)
theorem agI(h:InP ps a):xA ps cs a=ou ps cs a:=by
 unfold xA ou;rw[DR h.1]
theorem agJ{κ:Type} [DecidableEq κ]{l:List κ}{s t:κ}(hs:s∈l)(ht:t∈l)(h:wK l s=wK l t):s=t:=by
 unfold wK nJ at h
 rw[ah hs,ah ht]at h
 have h:((l.idxOf s:Nat):Int)=((l.idxOf t:Nat):Int):=h
 have h:l.idxOf s=l.idxOf t:=zO
 have e1:=gB (dL hs)
 have e2:=gB (dL ht)
 rw[<-e1,<-e2]
 simp only[h]
theorem agK{b:kZ}(ha:InP ps a)(hb:InP ps b):BO (ou ps cs a)=BO (ou ps cs b)↔ou ps cs a=ou ps cs b:=by
 refine⟨λh=> ?_,λh=>by rw[h]⟩
 unfold BO at h
 simp only[aP,ax]at h
 have h1:uI ps a.1=uI ps b.1:=h.1
 have hn:a.1=b.1:=agJ ha.1 hb.1 h1
 have hlen:a.2.1.length=b.2.1.length:=by
  have e1:=ha.2.2
  rw[hn,hb.2.2]at e1
  have:=bR e1;omega
 have:=List.append_inj_left h.2 (by unfold ou;simp [hlen])
 exact Prod.ext h1 this
theorem RQ{az:List kZ}(ha:InP ps a)(hz: ∀b∈az,InP ps b):rX (az.map (ou ps cs)) (ou ps cs a)=qF (az.map (ou ps cs)) (xA ps cs a)/\ ∃bz:List kZ,qF (az.map (ou ps cs)) (xA ps cs a)=bz.map (ou ps cs)/\ ∀b∈bz,InP ps b:=by
 rw[agI ha]
 unfold rX qF
 have hiff:BO (ou ps cs a)∈(az.map (ou ps cs)).map BO↔ou ps cs a∈az.map (ou ps cs):=by
  constructor
  ·intro h
   obtain⟨r,hr,e⟩:=bF.1 h
   obtain⟨b,hb,rfl⟩:=bF.1 hr
   rw[<-(agK (hz b hb) ha).1 e]
   exact hr
  ·intro h;exact bF.2 ⟨_,h,rfl⟩
 by_cases h:ou ps cs a∈az.map (ou ps cs)
 ·rw[ah (hiff.2 h),ah h]
  exact⟨rfl,az,rfl,hz⟩
 ·rw[af (λe=>h (hiff.1 e)),af h]
  refine⟨rfl,az++[a],by rw[bH];rfl,λb hb=> ?_⟩
  rcases aV.1 hb with hb|hb
  ·exact hz b hb
  ·rcases aY.1 hb with rfl;exact ha
theorem Jw{ps:List kK}{cs:List jK}: ∀(l:List jY) (st:List oq×List sj) (n:Nat) (az:List kZ),st.2=az.map (ou ps cs)->(∀b∈az,InP ps b)->(∀c∈l,lh c=(0,0,0))->(∀c∈l,∀a∈kJ c,InP ps a)->
  nY ps cs st n l=sV ps cs st n l/\ ∃bz:List kZ,(sV ps cs st n l).2=bz.map (ou ps cs)/\ ∀b∈bz,InP ps b
 |[],st,n,az,h1,h2,_,_=>⟨rfl,az,h1,h2⟩
 |c::l,st,n,az,h1,h2,h3,h4=>by
  unfold nY sV
  have hc:=h4 c (bu ..)
  have hb:=h3 c (bu ..)
  have h3': ∀c∈l,lh c=(0,0,0):=λd hd=>h3 d (bg _ hd)
  have h4': ∀c∈l,∀a∈kJ c,InP ps a:=λd hd=>h4 d (bg _ hd)
  by_cases he:c.2=[]
  ·have h0:=hc c.1 (by unfold kJ;exact bu ..)
   obtain⟨j1,bz,j2,j3⟩:=RQ (cs:=cs) h0 h2
   have e1:rP ps cs st n c=(st.1,bz.map (ou ps cs)):=by unfold rP;rw[ah he,h1,j2]
   have e2:Az ps cs st n c=(st.1,bz.map (ou ps cs)):=by unfold Az;rw[ah he,h1,j1,j2]
   rw[e1,e2]
   exact Jw l _ (n+1) bz rfl j3 h3' h4'
  ·have e1:rP ps cs st n c=Az ps cs st n c:=by
    unfold rP Az
    rw[af he,af he,adA hb λa ha=>(hc a ha).1]
   rw[e1]
   refine Jw l _ (n+1) az ?_ h2 h3' h4'
   unfold Az;rw[af he];exact h1
theorem RS{ps:List kK}{cs:List jK}: ∀(l:List kZ) (az:List kZ),(∀b∈az,InP ps b)->(∀a∈l,InP ps a)->l.foldl (λr a=>qF r (xA ps cs a)) (az.map (ou ps cs))=l.foldl (λr a=>rX r (ou ps cs a)) (az.map (ou ps cs))
 |[],_,_,_=>rfl
 |a::l,az,h1,h2=>by
  obtain⟨j1,bz,j2,j3⟩:=RQ (cs:=cs) (h2 a (bu ..)) h1
  rw[bN,bN,j1,j2]
  exact RS l bz j3 λx hx=>h2 x (bg _ hx)
theorem uZ(h:qI p=0):p.length<=512/\ ∀c∈p,lw c=0:=by
 unfold qI at h
 split at h
 ·cases h
 ·exact⟨zO,qO h⟩
theorem ve(h:lw c=0):c.2.length<=16/\ ∀a∈kJ c,nC a=0:=by
 unfold lw at h
 split at h
 ·rename_i ha
  split at h
  ·cases h
  ·rename_i hl
   refine⟨zO,λa hm=> ?_⟩
   unfold kJ mU at hm
   rcases aH.1 hm with rfl|hm
   ·exact ha
   ·obtain⟨x,hx,rfl⟩:=bF.1 hm
    obtain⟨hx,hk⟩:=dX.1 hx
    have hk:x.1=1\/x.1=2:=of_decide_eq_true hk
    have hw:=qO h x hx
    unfold vk at hw
    rw[ah hk]at hw
    split at hw
    ·exact hw
    ·cases hw
 ·rename_i ha;exact absurd h ha
theorem DW{fs:List kZ}(h:wF p fs=(0,0,0)):qI p=0/\fs.length<=4096/\ ∀a∈fs,JE a=true:=by
 unfold wF at h
 split at h
 ·rename_i h1;exact absurd (bA Prod.fst h) h1
 ·rename_i h1
  split at h
  ·cases h
  ·rename_i h2
   cases hf:fs.find? λa=> !JE a with
   |some a=>rw[hf]at h;cases h
   |none=>
    rw[dF]at hf
    exact⟨dw h1,zO,λa ha=>by simpa using hf a ha⟩
theorem BD(p:List jY)(fs:List kZ):yR p fs=qi p fs:=by
 unfold yR qi
 rw[VU]
 by_cases h1:wF p fs≠(0,0,0)
 ·rw[ah h1,ah h1,ah h1]
 ·rw[af h1,af h1]
  by_cases h2:(sP [] (kI p fs)).2≠(0,0,0)
  ·rw[ah h2,ah h2]
  ·rw[af h2,af h2]
   by_cases h3:mF p≠(0,0,0)
   ·rw[ah h3,ah h3]
   ·rw[af h3,af h3]
    have h1:wF p fs=(0,0,0):=dw h1
    have h2:(sP [] (kI p fs)).2=(0,0,0):=dw h2
    have h3:mF p=(0,0,0):=dw h3
    obtain⟨g1,g2,g3⟩:=DW h1
    obtain⟨w1,w2⟩:=uZ g1
    -- names
    have hps:(sP [] (kI p fs)).1=fs.foldl ru ((p.flatMap kJ).foldl ru [])/\ ∀a,a∈p.flatMap kJ\/a∈fs->oQ (sP [] (kI p fs)).1 a.1=some (a.2.1.length:Int):=by
     unfold kI at h2 ⊢
     rw[GU,vJ]at h2 ⊢
     rcases rV (p.flatMap kJ) []with⟨q1,q2,q3⟩|q|q
     ·rw[ah q1]at h2 ⊢
      simp only[bv]at h2 ⊢
      rw[vJ]at h2 ⊢
      rcases rV fs (kv [] (p.flatMap kJ)).1 with⟨k1,k2,k3⟩|k|k
      ·rw[ah k1]
       refine⟨by rw[k3,q3],λa ha=> ?_⟩
       rcases ha with ha|ha
       ·exact wE k1 (DU q1 a ha)
       ·exact DU k1 a ha
      ·have k': ¬(kv (kv [] (p.flatMap kJ)).1 fs).2.1=0:=by rw[k];decide
       rw[af k']at h2
       exact absurd (bA (λx:BP=>x.1) h2) k'
      ·have k': ¬(kv (kv [] (p.flatMap kJ)).1 fs).2.1=0:=by rw[k];decide
       rw[af k']at h2
       exact absurd (bA (λx:BP=>x.1) h2) k'
     ·have q': ¬(kv [] (p.flatMap kJ)).2.1=0:=by rw[q];decide
      rw[af q',af (show¬(kv [] (p.flatMap kJ)).2.1=0 from q')]at h2
      exact absurd (bA (λx:BP=>x.1) h2) q'
     ·have q': ¬(kv [] (p.flatMap kJ)).2.1=0:=by rw[q];decide
      rw[af q',af (show¬(kv [] (p.flatMap kJ)).2.1=0 from q')]at h2
      exact absurd (bA (λx:BP=>x.1) h2) q'
    obtain⟨hps1,hps2⟩:=hps
    -- constants
    have hraw:(wQ p).map (·.1)=p.flatMap kC:=by unfold wQ;rw[eG];exact gV _
    have hrawA:(Au fs).map (·.1)=fs.flatMap (·.2.1):=by unfold Au;rw[eG];exact gV _
    have hput:sQ p fs=lT 0 (wQ p)++lT (0+(wQ p).length) (Au fs):=Jt _ _ _
    obtain⟨E1,hE1⟩:=kg (lT 0 (wQ p))
    obtain⟨E2,hE2⟩:=kg (lT (0+(wQ p).length) (Au fs))
    rw[<-hE1,<-hE2]at hput
    have m1:E1.map (·.1)=p.flatMap kC:=by rw[hE1,Ar,hraw]
    have m2:E2.map (·.1)=fs.flatMap (·.2.1):=by rw[hE2,Ar,hrawA]
    have t1: ∀x∈E1,x.2.1=0:=by rw[hE1];exact EQ _ _ λx hx=>by obtain⟨t,-,rfl⟩:=bF.1 hx;rfl
    have t2: ∀x∈E2,x.2.1=1:=by rw[hE2];exact EQ _ _ λx hx=>by obtain⟨t,-,rfl⟩:=bF.1 hx;rfl
    have v1:=xg E1 [] (aj _)
    rw[m1]at v1
    obtain⟨v1a,v1b⟩:=v1
    have hF1:=sU E1 []
    rw[aJ,m1]at hF1
    have hF:kL [] (sQ p fs)=kL [] E1++kL ((p.flatMap kC).foldl pR []) E2:=by rw[hput,Aw,m1]
    have hlen1:(kL [] E1).length=((p.flatMap kC).foldl pR []).length:=by rw[<-hF1,aU]
    obtain⟨tk1,tk2⟩:=Mh p [] []
    rw[v1a]at tk1
    simp only[aA,jA]at tk1 v1a
    cases hx:(kL [] E1)[65536]? with
    |some x=>
     rw[hx]at tk1
     have hxm:=(rW E1 []).mem (aF hx)
     rw[hF,bM (aB.1 hx).1,hx]
     simp only
     have htk:tT ([],[]) p=((tT ([],[]) p).1,some x.1):=Prod.ext rfl tk1
     rw[htk]
     simp only[t1 x hxm]
    |none=>
     rw[hx]at tk1 v1a
     simp only[Option.map_none]at tk1 v1a
     have hle:(kL [] E1).length<=65536:=iH.1 hx
     have tk2:=tk2 tk1
     rw[v1b v1a]at tk2
     have v2:=xg E2 ((p.flatMap kC).foldl pR []) (by rw[<-hlen1];exact hle)
     rw[m2]at v2
     obtain⟨v2a,v2b⟩:=v2
     have htk:tT ([],[]) p=(((p.flatMap kJ).foldl ru [],(p.flatMap kC).foldl pR []),none):=Prod.ext tk2 tk1
     rw[htk]
     simp only
     rw[Mi,hF,dA hle,hlen1]
     cases hy:(kL ((p.flatMap kC).foldl pR []) E2)[65536 - ((p.flatMap kC).foldl pR []).length]? with
     |some y=>
      rw[hy]at v2a
      have hym:=(rW E2 _).mem (aF hy)
      have htv:pG ((p.flatMap kC).foldl pR []) (fs.flatMap (·.2.1))=((pG ((p.flatMap kC).foldl pR []) (fs.flatMap (·.2.1))).1,some y.1):=Prod.ext rfl v2a
      rw[htv]
      simp only[t2 y hym]
     |none=>
      rw[hy]at v2a
      have v2b:=v2b v2a
      have htv:pG ((p.flatMap kC).foldl pR []) (fs.flatMap (·.2.1))=((fs.flatMap (·.2.1)).foldl pR ((p.flatMap kC).foldl pR []),none):=Prod.ext v2b v2a
      rw[htv]
      simp only
      have hcs:(kL [] E1++kL ((p.flatMap kC).foldl pR []) E2).map (λx=>jU x.1)=(fs.flatMap (·.2.1)).foldl pR ((p.flatMap kC).foldl pR []):=by
       rw[bH,hF1,sU,m2]
      rw[hcs]
      obtain⟨C,hC⟩:=kg ((fs.flatMap (·.2.1)).foldl pR ((p.flatMap kC).foldl pR []))
      obtain⟨P,hP⟩:=kg ((sP [] (kI p fs)).1)
      rw[<-hC,<-hP,<-hps1,<-hP]
      rw[<-hP]at hps2
      have inP: ∀a,(a∈p.flatMap kJ\/a∈fs)->InP P a:=λa ha=>by
       have har:=hps2 a ha
       refine⟨?_,?_,har⟩
       ·refine dw λhn=> ?_
        rw[BI.2 hn]at har;cases har
       ·refine vO ?_
        rcases ha with ha|ha
        ·obtain⟨c,hc,ha⟩:=dG.1 ha
         exact(ve (w2 c hc)).2 a ha
        ·exact ahJ (g3 a ha)
      obtain⟨r1,bz,r2,r3⟩:=Jw (ps:=P) (cs:=C) p ([],[]) 0 [] rfl (λb hb=>by simp at hb) (Cz h3) (λc hc a ha=>inP a (.inl (dG.2 ⟨c,hc,ha⟩)))
      unfold adz
      rw[r1,r2,RS fs bz r3 λa ha=>inP a (.inr ha),<-r2]
end Edict
