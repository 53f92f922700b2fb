/- A part of the proof. -/
import Derived.Test.YtgjkkjeakagomaaGreatDoorKcN
set_option linter.all false
set_option maxRecDepth 100000
set_option maxHeartbeats 4000000
open Go.Value renaming int→Jx
open Go.IntKind renaming i64→JT
namespace Edict
theorem CF: ∀(l:List kZ) (ps:List kK),(l.foldl ru ps).length<=ps.length+l.length
 |[],_=>ak _
 |a::l,ps=>by
  have h1:=CF l (ru ps a)
  have h2:(ru ps a).length<=ps.length+1:=by unfold ru;split<;>simp
  simp only[bN,au];omega
theorem WQ(ps:List kK)(cs:List jK)(c:jY)(l:List jY):tT (ps,cs) (c::l)=match pG cs (kC c)with
  |(cs',none)=>tT ((kJ c).foldl ru ps,cs') l
  |(cs',some t)=>(((kJ c).foldl ru ps,cs'),some t):=rfl
theorem WR{c:jY}(h:lw c=0):(kJ c).length<=17:=by
 unfold lw at h
 split at h
 ·split at h
  ·cases h
  ·unfold kJ mU
   have:=bW YC c.2
   simp only[au,aU];omega
 ·rename_i ha;exact absurd h ha
def agV(p:List jY)(fs:List kZ)(ps:List kK)(cs:List jK):Gn×BP:=match yn cs fs with
 |(_,some t)=>(qH,6,1,t.2.2.2)
 |(cs',none)=>ajp p fs (fs.foldl ru ps) cs'
end Edict
namespace Go.Proofs.Z
open Go Go.Ev Edict
variable {K:Value->H->Prop} {KP:List PanicEntry->H->Prop} {b:Nat} {fa:Option Addr} {fc:Nat} {fs:List kZ} {h h0:H} {k:Nat} {la:Option Addr} {lc mc mp:Nat} {p:List jY} {p2 p4 p5:Nat} {u u0:U} {vC vF vP vR:Value} {σ:ku}
theorem ajn {ps:List kK} {cs:List jK}
  (X:Ue u0 h0 p fs la fa lc fc p2 p4 p5 b k σ u h) (hl:jS u0 h0 (.slice la p.length lc) p) (hlf:jS u0 h0 (.slice fa fs.length fc) fs) (B:wL k u h b mp mc vP vC vR vF ps cs [] [])
  (hps:ps.length<=65536) (hcs:cs.length<=65536) (hpl:p.length<=512) (hpc: ∀c∈p,lw c=0) (hpw: ∀c∈p,∀t∈kC c,Rep.wf (jU t)) (h8: ∀a∈fs,a.2.1.length<=8/\ ∀t∈a.2.1,Rep.wf (jU t)) (hfl:fs.length<=4096)
  (hb:qi p fs=agV p fs ps cs) (hK:Kb u0 h0 p fs K):wpS ma bT6 (uK qz (pz K KP)) σ h:=by
 rw[ag3]
 simp only[go_sem,bT6,bT5,bT4,bT3,Tx,sS,sF,xU,X.e1,X.e8]
 have hnl:=CF fs ps
 refine jC (Ki ⟨k,u,b,mp,mc,_,vP,vC,vR,vF,fs,ps,cs,[],[],rfl,hlf.mono X.st.ge,B,zO,X.lt.2.2.2.2.2.2.2.2.2.2,λu1 h1 vP' s1 B1 b1=>⟨jO,?_⟩⟩)
 simp only[go_sem,jN]
 exact ajr (X.step s1 (λj hj=>B.ge hj) _ zJ zJ zJ zJ zJ) hl hlf B1 zO hcs hpl hpc hpw h8 hfl hb hK
theorem ajo
  (X:Ue u0 h0 p fs la fa lc fc p2 p4 p5 b k σ u h) (hl:jS u0 h0 (.slice la p.length lc) p) (hlf:jS u0 h0 (.slice fa fs.length fc) fs) (B:wL k u h b mp mc vP vC vR vF [] [] [] [])
  (hpl:p.length<=512) (hpc: ∀c∈p,lw c=0) (hpw: ∀c∈p,∀t∈kC c,Rep.wf (jU t)) (h8: ∀a∈fs,a.2.1.length<=8/\ ∀t∈a.2.1,Rep.wf (jU t)) (hfl:fs.length<=4096)
  (hb:qi p fs=match tT ([],[]) p with
   |(_,some t)=>(qH,6,0,t.2.2.2)
   |((ps,cs),none)=>agV p fs ps cs) (hK:Kb u0 h0 p fs K):wpS ma bT5 (uK qz (pz K KP)) σ h:=by
 have hm:=lC
 rw[ag2]
 have hA:=X.A
 have hA1:=hA.1
 simp(disch:=first|omega|simp only[zz];try omega;done) only[↓reduceIte,go_sem,bT5,bT4,bT3,Tx,sS,sF,xU,X.e2,hA.at,hA.2.1]
 obtain⟨I,hI⟩:=kg (α:=Nat->ku->H->Prop) λi σ' h'=>σ' 42= .slice la p.length lc/\σ' 43= Jx JT p.length/\σ' 44= Jx JT i/\i<=p.length/\
  ∃(u':U) (vPi vCi:Value) (pi:List kK) (ci:List jK),Ue u0 h0 p fs la fa lc fc p2 p4 p5 b k σ' u' h'/\wL k u' h' b mp mc vPi vCi vR vF pi ci [] []/\pi.length<=17*i/\ci.length<=65536/\tT ([],[]) p=tT (pi,ci) (p.drop i)
 refine jE I (λi=>p.length - i) 0 (by
  rw[hI]
  exact⟨zJ,zJ,zJ,aj _,u,vP,vC,[],[],X.step (S:=S0) (.refl _ _ _) (λ_ h=>h.elim) _ zJ zJ zJ zJ zJ,B,aj _,aj _,rfl⟩) ?_
 clear B X hA hA1
 intro i σ h' hy
 rw[hI]at hy
 obtain⟨e42,e43,e44,hi,u',vPi,vCi,pi,ci,X,B,hpil,hcil,heq⟩:=hy
 by_cases hlt:i<p.length
 ·obtain⟨c,hs⟩:=qP hlt
  have hdr:p.drop i=c::p.drop (i+1):=by
   obtain⟨hi',rfl⟩:=aB.1 hs
   exact aN hi'
  rw[hdr,WQ]at heq
  have hmem:=aF hs
  have hcW:=hpc c hmem
  have hcb:=tF hcW
  have hwc:=hpw c hmem
  have hac:=WR hcW
  obtain⟨hb1,hb2,hb3⟩:=tC hcb
  obtain⟨pb,po,rfl,hpb,hpu,hpz,hpr⟩:=(hl.mono X.st.ge).row i c hs
  have hprs:=hpr
  rw[lH]at hpr
  obtain⟨va,vb,hpr,hh,hbd⟩:=hpr
  obtain⟨ha,hc,rfl,-,-⟩:=hh.sl
  obtain⟨ba,bc,rfl,-,-⟩:=hbd.sl
  have hcells:=hpr
  simp only[nH,mQ,ax,aC]at hpr hpu hpz
  obtain⟨q0,q1,q2,q3⟩:=hpr
  rw[hcells]at hprs
  have sp:=jD.qZ S0 u' h' #[str c.1.1,.slice ha c.1.2.1.length hc,Jx JT c.1.2.2,.slice ba c.2.length bc] 54
  have Y:jR (ub u' h'.size 0) (h'.push (.cells #[str c.1.1,.slice ha c.1.2.1.length hc,Jx JT c.1.2.2,.slice ba c.2.length bc] 54)) h'.size [str c.1.1,.slice ha c.1.2.1.length hc,Jx JT c.1.2.2,.slice ba c.2.length bc]:=(jR.mk zY zE zE (by repeat (first|(refine lU ?_;simp only[];done)|apply kG)) zE)
  have Bp:=B.step sp (λ_ _ h=>h)
  have Xp:=X.step sp (λ_ h=>h.elim) σ rfl rfl rfl rfl rfl
  have hhp:=hh.mono sp.ge
  have hbp:=hbd.mono sp.ge
  have hrp:=Rep.mono sp.ge hprs
  simp(disch:=omega) only[↓reduceIte,go_sem,Vh,e42,e43,e44,hlt,q0,q1,q2,q3]
  obtain⟨hp,hhp0⟩:=kg (h'.push (.cells #[str c.1.1,.slice ha c.1.2.1.length hc,Jx JT c.1.2.2,.slice ba c.2.length bc] 54))
  have hhs:hp.size=h'.size+1:=by rw[hhp0];simp only[kw]
  rw[<-hhp0]at Y Bp Xp hhp hbp sp hrp ⊢
  clear hhp0
  have hyl:=Y.1
  have hyB: ¬qQ b mp mc vPi vCi vR vF h'.size:=λhj=>by have:=B.lt hj;omega
  have hkh:=Xp.lt.2.2.2.2.2.2.2.2.2.2
  have hal:(mU c.2).length<=1048576:=by
   unfold mU
   rw[aU]
   have:=bW YC c.2
   have:=pq c.2
   omega
  have hnames: ∀(u6:U) (h6:H) (w:Value) (K':Value->H->Prop),jD S0 (ub u' h'.size 0) hp u6 h6->jS u6 h6 w (kJ c)->(∀u8 h8 vP',jD (qQ b mp mc vPi vCi vR vF) (ub u' h'.size 0) hp u8 h8->wL k u8 h8 b mp mc vP' vCi vR vF ((kJ c).foldl ru pi) ci [] []->K' (.tuple #[]) h8)->Eh [.pointer (some ⟨b,0,none⟩),w] h6 K':=λu6 h6 w K' s6 hw6 hK'=>
   ⟨k,u6,b,mp,mc,w,vPi,vCi,vR,vF,kJ c,pi,ci,[],[],rfl,hw6,Bp.step s6 (λ_ _ h=>h),zO,by have:=s6.ge.sz;omega,λu8 h8 vP' s8 B8 b8=>hK' u8 h8 vP' ((s6.mono λ_ _ h=>h.elim).trans s8 (λ_ _ h=>h)) B8⟩
  refine vX (λσ' h2=>BR σ σ' [1,2,4,5,8,42,43,44]/\σ' 10= .pointer (some ⟨h'.size,0,none⟩)/\ ∃(u2:U) (vP2:Value),jD (qQ b mp mc vPi vCi vR vF) (ub u' h'.size 0) hp u2 h2/\wL k u2 h2 b mp mc vP2 vCi vR vF ((kJ c).foldl ru pi) ci [] []) ?_ ?_
  ·have o1:=GY (k:=hp.size) (a:=c.1) 51 (ak _) (show Rep.rep (ub u' h'.size 0) hp c.1 [str c.1.1,.slice ha c.1.2.1.length hc,Jx JT c.1.2.2] by rw[kE];exact⟨_,rfl,hhp⟩)
   have s1:=jD.push S0 (ub u' h'.size 0) hp #[str c.1.1,.slice ha c.1.2.1.length hc,Jx JT c.1.2.2] 51 3
   have Y1:=Y.sZ s1
   have hy1:=Y1.1
   simp(disch:=first|omega|simp only[zz];try omega;done) only[↓reduceIte,go_sem,vQ,X.e8,e42,e43,e44,Y.at,Y.2.1]
   refine⟨jC (Tv ⟨_,_,c.2,rfl,hbp.mono s1.ge,hb1,λu5 h5 w s5 hw5=>⟨jO,?_⟩⟩),jC (Tv ⟨_,_,c.2,rfl,hbp,hb1,λu5 h5 w s5 hw5=> ?_⟩)⟩
   ·have o5:=o1.sZ s5
    have s15:=s1.tZ s5
    simp only[↓reduceIte,go_sem,jN]
    refine lV o5 hw5 rfl rfl s15.ge.sz (by simp only[aZ];omega) λa6 n6 c6 u6 h6 o6 s6=>⟨jO,?_⟩
    have s16:jD S0 (ub u' h'.size 0) hp u6 h6:=s15.trans s6 (λj hj hB=>by have:=o5.ge hB;omega)
    simp only[↓reduceIte,go_sem,X.e8]
    refine jC (Ki (hnames u6 h6 _ _ s16 o6.iZ λu8 h8 vP' s8 B8=>⟨jO,?_⟩))
    simp only[↓reduceIte,go_sem,X.e8,e42,e43,e44]
    exact⟨_,s8,_,B8⟩
   ·have Y5:=Y.sZ s5
    have hy5:=Y5.1
    refine⟨by simp(disch:=first|omega|simp only[zz];try omega;done) only[↓reduceIte,go_sem,Y.at,Y5.at,Y5.2.1],?_⟩
    have o5:=GY (k:=hp.size) (a:=c.1) 51 s5.ge.sz (show Rep.rep u5 h5 c.1 [str c.1.1,.slice ha c.1.2.1.length hc,Jx JT c.1.2.2] by rw[kE];exact⟨_,rfl,hhp.mono s5.ge⟩)
    have s5b:=jD.push S0 u5 h5 #[str c.1.1,.slice ha c.1.2.1.length hc,Jx JT c.1.2.2] 51 3
    have s15:=s5.tZ s5b
    simp only[↓reduceIte,go_sem,jN]
    refine lV o5 (hw5.mono s5b.ge) rfl rfl s15.ge.sz (by simp only[aZ];omega) λa6 n6 c6 u6 h6 o6 s6=>⟨jO,?_⟩
    have s16:jD S0 (ub u' h'.size 0) hp u6 h6:=s15.trans s6 (λj hj hB=>by have:=o5.ge hB;omega)
    simp only[↓reduceIte,go_sem,X.e8]
    refine jC (Ki (hnames u6 h6 _ _ s16 o6.iZ λu8 h8 vP' s8 B8=>⟨jO,?_⟩))
    simp only[↓reduceIte,go_sem,X.e8,e42,e43,e44]
    exact⟨_,s8,_,B8⟩
  ·rintro σ' h2 ⟨hkE,e10,u2,vP2,s2,B2⟩
   simp only[go_sem,X.e1,X.e2,X.e4,X.e5,X.e8,e42,e43,e44]at hkE
   obtain⟨k1,k2,k4,k5,k8,k42,k43,k44⟩:=hkE
   have Y2:=Y.step s2 hyB
   have hy2:=Y2.1
   have X2:=Xp.step s2 (λj hj=>B.ge hj) σ' (by rw[k1,X.e1]) (by rw[k2,X.e2]) (by rw[k4,X.e4]) (by rw[k5,X.e5]) (by rw[k8,X.e8])
   have hr2:=Rep.mono s2.ge hrp
   have hnl:=CF (kJ c) pi
   simp(disch:=first|omega|simp only[zz];try omega;done) only[↓reduceIte,go_sem,e10,Y2.at,Y2.2.1]
   refine jC (ajt ⟨u2,c,_,rfl,hr2,hcb,λu3 h3 w s3 hw3=>⟨jO,?_⟩⟩)
   have B3:=B2.step s3 (λ_ _ h=>h)
   have X3:=X2.step s3 (λ_ h=>h.elim) σ' rfl rfl rfl rfl rfl
   simp only[↓reduceIte,go_sem,k8]
   refine jC (ME ⟨k,u3,b,mp,mc,_,vP2,vCi,vR,vF,kC c,_,ci,[],[],rfl,hw3,B3,hcil,X3.lt.2.2.2.2.2.2.2.2.2.2,hwc,λu4 h4 vj s4 B4 b4 l4=>⟨jO,?_⟩⟩)
   have X4:=X3.step s4 (λj hj=>B3.ge hj) σ' rfl rfl rfl rfl rfl
   have sq:=jD.qZ S0 u4 h4 (jM.enc ((pG ci (kC c)).2.getD JP)).toArray 74
   have B5:=B4.step sq (λ_ _ h=>h)
   have X5:=X4.step sq (λ_ h=>h.elim) σ' rfl rfl rfl rfl rfl
   generalize hvr:pG ci (kC c)=r at heq B4 B5 l4 sq X5 ⊢
   obtain⟨cj,ot⟩:=r
   cases ot with
   |none=>
    simp only[dR,cZ,jM.enc,JP]at heq sq X5 B5 l4 ⊢
    simp(disch:=omega) only[↓reduceIte,go_sem,k44]
    refine⟨i+1,?_,zO⟩
    rw[hI]
    exact⟨by simp [jI,k42],by simp [jI,k43],zJ,hlt,_,vP2,vj,_,cj,X5.step (S:=S0) (.refl _ _ _) (λ_ h=>h.elim) _ zJ zJ zJ zJ zJ,B5,zO,l4,heq⟩
   |some t=>
    simp only[bZ,dM,jM.enc]at heq sq X5 B5 l4 ⊢
    rw[heq]at hb
    simp only at hb
    have E:=OO X4 hb hK
    have C3:=X4.C
    have F3:=X4.F
    have hc3:=C3.1
    have hf3:=F3.1
    simp(disch:=omega) only[↓reduceIte,go_sem,k4,k5,C3.2.1,C3.2.2.1]
    generalize hXe:jW h4 p4 0 [.slice none 0 0,.slice none 0 0,.slice none 0 0,.slice none 0 0]=hX at E ⊢
    obtain⟨y1,y2,y3,y4,y5,y6,y7,y8,y9,y10,y11,y12⟩:=E
    have y60:=y6 0 zO
    have y61:=y6 1 zO
    have y62:=y6 2 zO
    have y63:=y6 3 zO
    simp(disch:=omega) only[↓reduceIte,go_sem,k4,k5,qz,y3,y4,y5,y60,y61,y62,y63,y7,y8,y9]
    exact y12 _ _ (jD.qZ S0 _ _ _ _)
 ·obtain rfl:i=p.length:=zO
  rw[bB]at heq
  have heq:tT ([],[]) p=((pi,ci),none):=heq
  rw[heq]at hb
  simp only at hb
  simp only[↓reduceIte,go_sem,Vh,e43,e44]
  exact ajn (X.step (S:=S0) (.refl _ _ _) (λ_ h=>h.elim) _ zJ zJ zJ zJ zJ) hl hlf B zO hcil hpl hpc hpw h8 hfl hb hK
end Go.Proofs.Z
namespace Edict
variable {fs:List kZ} {p:List jY}
theorem aaU(h:qG p fs=(0,0,0)):qI p=0/\fs.length<=4096/\ ∀a∈fs,JE a=true:=by
 unfold qG at h
 split at h
 ·rename_i hw;exact absurd (bA (λf:BP=>f.1) h) hw
 ·rename_i hw
  have hw:qI p=0:=fw hw
  split at h
  ·cases h
  ·rename_i h4
   refine⟨hw,zO,λa ha=> ?_⟩
   split at h
   ·cases h
   ·rename_i hf
    rw[dF]at hf
    have:=hf a ha
    simpa using this
theorem WN(h:qG p fs≠(0,0,0)):qi p fs=(qH,(qG p fs).1,(qG p fs).2.1,(qG p fs).2.2):=by
 unfold qi;rw[ah h]
theorem WO(h:qG p fs=(0,0,0))(h2:mF p≠(0,0,0)):qi p fs=(qH,(mF p).1,(mF p).2.1,(mF p).2.2):=by
 unfold qi;rw[af (by simp [h]),ah h2]
theorem aaV(h:qG p fs=(0,0,0))(h2:mF p=(0,0,0)):qi p fs=match tT ([],[]) p with
   |(_,some t)=>(qH,6,0,t.2.2.2)
   |((ps,cs),none)=>agV p fs ps cs:=by
 unfold qi agV
 rw[af (by simp [h]),af (by simp [h2])]
 generalize tT ([],[]) p=r
 obtain⟨⟨ps,cs⟩,o⟩:=r
 cases o with
 |some t=>rfl
 |none=>
  simp only
  generalize yn cs fs=q
  obtain⟨cs',o⟩:=q
  cases o<;>rfl
theorem ad7{f:BP}(h:f≠(0,0,0)):(decide (f.1=0) && (decide (f.2.1=0) && decide (f.2.2=0)))=false:=by
 cases hd:(decide (f.1=0) && (decide (f.2.1=0) && decide (f.2.2=0)))with
 |false=>rfl
 |true=>
  simp only[aM,aL]at hd
  exact absurd (Prod.ext hd.1 (Prod.ext hd.2.1 hd.2.2)) h
end Edict
namespace Go.Proofs.Z
open Go Go.Ev Edict
def YR(vs:List Value)(h:H)(K:Value->H->Prop):Prop:= ∃(u:U) (v w:Value) (p:List jY) (fs:List kZ),vs=[.agg #[v],w]/\jS u h v p/\jS u h w fs/\Rep.wf p/\Rep.wf fs/\Ac u h/\Kb u h p fs K
theorem Ei{t:jM}(h:Rep.wf t):Rep.wf (jU t):=⟨h.1,h.2.1,h.2.2.1⟩
theorem WP{vs:List Value}{h:H}{K:Value->H->Prop}{KP:List PanicEntry->H->Prop}(hC:YR vs h K):kN Tryz.prog 8 vs h K KP:=by
 obtain⟨u,v,w,p,fs,rfl,hl,hlf,hwp,hwf,hP,hK⟩:=hC
 obtain⟨la,lc,rfl,q1,q2⟩:=hl.sl
 obtain⟨fa,fc,rfl,q3,q4⟩:=hlf.sl
 have hm:=lC
 refine jJ (s:=xU) 42817430781178817011341305105543176554006175223 [((some (.c1 (.ldn 4) (.t 4))),(.o1 (.ldn 4) (.t 4))),((some (.c1 (.ldn 3) (.t 5))),(.o1 (.ldn 3) (.t 5)))] OP Tryz.func8 ?_ (by kernel_rfl) (by kernel_rfl)
 rw[ajv]
 simp only[↓reduceIte,go_sem,sF,xU]
 have sA:=jD.qZ S0 u h #[.slice la p.length lc] 24
 have A0:jR (ub u h.size 0) (h.push (.cells #[.slice la p.length lc] 24)) h.size [.slice la p.length lc]:=(jR.mk zY zE zE (by repeat (first|(refine lU ?_;simp only[];done)|apply kG)) zE)
 have sB:=jD.qZ S0 (ub u h.size 0) (h.push (.cells #[.slice la p.length lc] 24)) #[.slice none 0 0,.slice none 0 0,.slice none 0 0,.slice none 0 0] 38
 have B0:jR (ub (ub u h.size 0) (h.push (.cells #[.slice la p.length lc] 24)).size 0) ((h.push (.cells #[.slice la p.length lc] 24)).push (.cells #[.slice none 0 0,.slice none 0 0,.slice none 0 0,.slice none 0 0] 38)) (h.size+1) [.slice none 0 0,.slice none 0 0,.slice none 0 0,.slice none 0 0]:=(jR.mk zY zE zE zU zE)
 obtain⟨h1,hh1⟩:=kg ((h.push (.cells #[.slice la p.length lc] 24)).push (.cells #[.slice none 0 0,.slice none 0 0,.slice none 0 0,.slice none 0 0] 38))
 have A1:=A0.sZ sB
 have st1:=sA.tZ sB
 generalize ub (ub u h.size 0) (h.push (.cells #[.slice la p.length lc] 24)).size 0=u1 at A1 B0 st1
 rw[<-hh1]at A1 B0 st1 ⊢
 have hs1:h1.size=h.size+2:=by rw[hh1];simp only[kw]
 clear hh1 sA sB A0
 have sC:=jD.qZ S0 u1 h1 #[Jx JT 0,Jx JT 0,Jx JT 0] 27
 have F2:jR (ub u1 h1.size 0) (h1.push (.cells #[Jx JT 0,Jx JT 0,Jx JT 0] 27)) h1.size [Jx JT 0,Jx JT 0,Jx JT 0]:=(jR.mk zY zE zE (by repeat (first|(refine lU ?_;simp only[];done)|apply kG)) zE)
 have A2:=A1.sZ sC
 have B2:=B0.sZ sC
 have st2:=st1.tZ sC
 obtain⟨h2,hh2⟩:=kg (h1.push (.cells #[Jx JT 0,Jx JT 0,Jx JT 0] 27))
 generalize ub u1 h1.size 0=u2 at A2 B2 F2 st2
 rw[<-hh2]at A2 B2 F2 st2 ⊢
 have hs2:h2.size=h.size+3:=by rw[hh2];simp only[kw];omega
 clear hh2 sC A1 B0 st1
 rw[hs1]at F2
 clear hs1 h1
 generalize hσ:jI (jI (jI (jI (jI BM 0 (.agg #[.slice la p.length lc])) 1 (.slice fa fs.length fc)) 2 (.pointer (some ⟨h.size,0,none⟩))) 4 (.pointer (some ⟨h.size+1,0,none⟩))) 5 (.pointer (some ⟨h.size+1+1,0,none⟩))=σ
 have e1:σ 1= .slice fa fs.length fc:=by rw[<-hσ];simp [jI]
 have e2:σ 2= .pointer (some ⟨h.size,0,none⟩):=by rw[<-hσ];simp [jI]
 have e4:σ 4= .pointer (some ⟨h.size+1,0,none⟩):=by rw[<-hσ];simp [jI]
 have e5:σ 5= .pointer (some ⟨h.size+2,0,none⟩):=by rw[<-hσ];simp [jI]
 clear hσ
 -- for the answers of faults
 have errX: ∀(u':U) (h':H),jD S0 u h u' h'->jR u' h' h.size [.slice la p.length lc]->jR u' h' (h.size+1) [.slice none 0 0,.slice none 0 0,.slice none 0 0,.slice none 0 0]->jR u' h' (h.size+2) [Jx JT 0,Jx JT 0,Jx JT 0]->
   Ue u h p fs la fa lc fc h.size (h.size+1) (h.size+2) 0 (h.size+3) (jI (jI (jI (jI (jI BM 1 (.slice fa fs.length fc)) 2 (.pointer (some ⟨h.size,0,none⟩))) 4 (.pointer (some ⟨h.size+1,0,none⟩))) 5 (.pointer (some ⟨h.size+2,0,none⟩))) 8 (.pointer (some ⟨0,0,none⟩))) u' h':=λu' h' st A B F=>
  ⟨zJ,zJ,zJ,zJ,zJ,st,A,B,F,by have:=F.1;omega⟩
 have ha2:=A2.1
 rw[agZ]
 simp(disch:=first|omega|simp only[zz];try omega;done) only[↓reduceIte,go_sem,Tx,sS,sF,xU,e1,e2,A2.at,A2.2.1]
 refine jC (agW ⟨u2,_,_,p,fs,rfl,hl.mono st2.ge,hlf.mono st2.ge,hwp,hwf,hP.mono st2.ge,λu3 h3 s3=>⟨jO,?_⟩⟩)
 have A3:=A2.sZ s3
 have B3:=B2.sZ s3
 have F3:=F2.sZ s3
 have st3:=st2.tZ s3
 simp only[fV]
 generalize hf:qG p fs=f
 have s4:=jD.qZ S0 u3 h3 #[Jx JT f.1,Jx JT f.2.1,Jx JT f.2.2] 27
 have A4:=A3.sZ s4
 have B4:=B3.sZ s4
 have F4:=F3.sZ s4
 have st4:=st3.tZ s4
 have hb3:=B3.1
 have hf3:=F3.1
 have ha3:=A3.1
 by_cases hz:f=(0,0,0)
 ·subst hz
  obtain⟨hw0,hf4,hgr⟩:=aaU hf
  simp(disch:=omega) only[↓reduceIte,go_sem,jN]
  generalize hσ':jI (jI (jI (jI σ 25 (.agg #[.slice la p.length lc])) 27 (.agg #[Jx JT 0,Jx JT 0,Jx JT 0])) 6 (.pointer (some ⟨h3.size,0,none⟩))) 30 (.bool false)=σ'
  have k1:σ' 1= .slice fa fs.length fc:=by rw[<-hσ'];simp [jI,e1]
  have k2:σ' 2= .pointer (some ⟨h.size,0,none⟩):=by rw[<-hσ'];simp [jI,e2]
  have k4:σ' 4= .pointer (some ⟨h.size+1,0,none⟩):=by rw[<-hσ'];simp [jI,e4]
  have k5:σ' 5= .pointer (some ⟨h.size+2,0,none⟩):=by rw[<-hσ'];simp [jI,e5]
  clear hσ' e1 e2 e4 e5
  simp only[]at A4 B4 F4 st4
  generalize ub u3 h3.size 0=u4 at A4 B4 F4 st4
  generalize h3.push (.cells #[Jx JT 0,Jx JT 0,Jx JT 0] 27)=h4 at A4 B4 F4 st4 ⊢
  have ha4:=A4.1
  obtain⟨hcW,hpl⟩:=Mx hw0
  rw[ag0]
  simp(disch:=first|omega|simp only[zz];try omega;done) only[↓reduceIte,go_sem,bT3,Tx,sS,sF,xU,k2,A4.at,A4.2.1]
  refine jC (aea ⟨u4,_,p,rfl,hl.mono st4.ge,λc hc=>tF (hcW c hc),λu5 h5 s5=>⟨jO,?_⟩⟩)
  have A5:=A4.sZ s5
  have B5:=B4.sZ s5
  have F5:=F4.sZ s5
  have st5:=st4.tZ s5
  simp only[fV]
  generalize hbd:mF p=g
  have s6:=jD.qZ S0 u5 h5 #[Jx JT g.1,Jx JT g.2.1,Jx JT g.2.2] 27
  have A6:=A5.sZ s6
  have B6:=B5.sZ s6
  have F6:=F5.sZ s6
  have st6:=st5.tZ s6
  have hb5:=B5.1
  have hf5:=F5.1
  have ha5:=A5.1
  by_cases hz2:g=(0,0,0)
  ·subst hz2
   have hmid:=aaV hf hbd
   simp(disch:=omega) only[↓reduceIte,go_sem,jN]
   simp only[]at A6 B6 F6 st6
   generalize ub u5 h5.size 0=u6 at A6 B6 F6 st6
   generalize h5.push (.cells #[Jx JT 0,Jx JT 0,Jx JT 0] 27)=h6 at A6 B6 F6 st6 ⊢
   rw[ag1]
   simp only[go_sem,bT4,bT3,Tx,sS,sF,xU]
   refine jC (aeb ⟨u6,rfl,λu7 h7 b mp mc s7 B7=>⟨jO,?_⟩⟩)
   have A7:=A6.sZ s7
   have C7:=B6.sZ s7
   have F7:=F6.sZ s7
   have st7:=st6.tZ s7
   have hf6:=F6.1
   simp only[↓reduceIte,go_sem,jN]
   refine ajo (k:=h6.size) (b:=b) (p2:=h.size) (p4:=h.size+1) (p5:=h.size+2) ⟨by simp [jI,k1],by simp [jI,k2],by simp [jI,k4],by simp [jI,k5],zJ,st7,A7,C7,F7,by have:=s7.ge.sz;omega⟩ hl hlf B7 hpl hcW ?_ (λa ha=>⟨?_,λt ht=>Ei ((hwf.2 a ha).2.1.2 t ht)⟩) hf4 hmid hK
   ·intro c hc t ht
    have hwc:=hwp.2 c hc
    unfold kC at ht
    rcases aV.1 ht with ht|ht
    ·exact Ei (hwc.1.2.1.2 t ht)
    ·obtain⟨x,hx,ht⟩:=dG.1 ht
     have hwx:=hwc.2.2 x hx
     unfold kQ sW at ht
     split at ht
     ·exact Ei (hwx.2.1.2.1.2 t ht)
     ·split at ht
      ·simp only[aH,cO,or_false]at ht
       rcases ht with rfl|rfl
       ·exact Ei hwx.2.2.2.1
       ·exact Ei hwx.2.2.2.2.1
      ·simp at ht
   ·have:=hgr a ha
    unfold JE at this
    rw[aM,aL]at this
    exact(wN this.1).2
  ·have hb:=WO (fs:=fs) (p:=p) hf (by rw[hbd];exact hz2)
   rw[hbd]at hb
   have E:=OO (errX u5 h5 st5 A5 B5 F5) hb hK
   simp(disch:=omega) only[↓reduceIte,go_sem,ad7 hz2,k4,k5,B5.2.1,B5.2.2.1]
   generalize hXe:jW h5 (h.size+1) 0 [.slice none 0 0,.slice none 0 0,.slice none 0 0,.slice none 0 0]=hX at E ⊢
   obtain⟨y1,y2,y3,y4,y5,y6,y7,y8,y9,y10,y11,y12⟩:=E
   have y60:=y6 0 zO
   have y61:=y6 1 zO
   have y62:=y6 2 zO
   have y63:=y6 3 zO
   simp(disch:=omega) only[↓reduceIte,go_sem,k4,k5,y3,y4,y5,y60,y61,y62,y63,y7,y8,y9]
   exact y12 _ _ (jD.qZ S0 _ _ _ _)
 ·have hb:=WN (fs:=fs) (p:=p) (by rw[hf];exact hz)
  rw[hf]at hb
  have E:=OO (errX u3 h3 st3 A3 B3 F3) hb hK
  simp(disch:=omega) only[↓reduceIte,go_sem,ad7 hz,e4,e5,B3.2.1,B3.2.2.1]
  generalize hXe:jW h3 (h.size+1) 0 [.slice none 0 0,.slice none 0 0,.slice none 0 0,.slice none 0 0]=hX at E ⊢
  obtain⟨y1,y2,y3,y4,y5,y6,y7,y8,y9,y10,y11,y12⟩:=E
  have y60:=y6 0 zO
  have y61:=y6 1 zO
  have y62:=y6 2 zO
  have y63:=y6 3 zO
  simp(disch:=omega) only[↓reduceIte,go_sem,e4,e5,y3,y4,y5,y60,y61,y62,y63,y7,y8,y9]
  exact y12 _ _ (jD.qZ S0 _ _ _ _)
end Go.Proofs.Z
namespace Edict
theorem LZ(l:List sj)(r:sj):(qF l r).length<=l.length+1:=by unfold qF;split<;>simp
theorem Ma{ps:List kK}{cs:List jK}: ∀(l:List kZ) (rows:List sj),(l.foldl (λr a=>qF r (xA ps cs a)) rows).length<=rows.length+l.length
 |[],_=>by simp
 |a::l,rows=>by
  have h1:=Ma (ps:=ps) (cs:=cs) l (qF rows (xA ps cs a))
  have h2:=LZ rows (xA ps cs a)
  simp only[bN,au];omega
theorem DI{ps:List kK}{cs:List jK}: ∀(l:List jY) (st:List oq×List sj) (n:Nat) (c:jY),nY ps cs st n (l++[c])=rP ps cs (nY ps cs st n l) (n+l.length) c
 |[],st,n,c=>rfl
 |d::l,st,n,c=>by
  rw[aP,nY,nY,DI l,au]
  congr 1;omega
theorem FI{ps:List kK}{cs:List jK}: ∀(l:List jY) (st:List oq×List sj) (n:Nat),(nY ps cs st n l).1.length<=st.1.length+l.length/\(nY ps cs st n l).2.length<=st.2.length+l.length
 |[],_,_=>by simp [nY]
 |c::l,st,n=>by
  have ih:=FI (ps:=ps) (cs:=cs) l (rP ps cs st n c) (n+1)
  have hs:(rP ps cs st n c).1.length<=st.1.length+1/\(rP ps cs st n c).2.length<=st.2.length+1:=by
   unfold rP
   split
   ·have:=LZ st.2 (xA ps cs c.1)
    exact⟨by simp only;omega,this⟩
   ·exact⟨zP,zP⟩
  rw[nY,au]
  omega
end Edict
namespace Go.Proofs.Z
open Go Go.Ev Edict
variable {b:Nat} {cs:List jK} {f:Nat} {fa:Option Addr} {fc:Nat} {h h' h0:H} {k:Nat} {la:Option Addr} {lc:Nat} {ps:List kK} {rs:List oq} {u u' u0:U} {vC vF vP vR:Value} {σ σ':ku}
def rT1:S:=sS Bq
def rT2:S:=sS rT1
def rT3:S:=sS rT2
def rT4:S:=sS rT3
def rT5:S:=sS rT4
def rT6:S:=sS rT5
def rT7:S:=sS rT6
def rT8:S:=sS rT7
def rT9:S:=sS rT8
def QT:S:=sS rT9
def Vw:S:=sS QT
def Vx:S:=sS Vw
def Vy:S:=sS Vx
def ajf:S:=sS Vy
theorem agu:Bq= .seq (sF Bq) rT1:=rfl
theorem agv:rT1= .seq (sF rT1) rT2:=rfl
theorem agw:rT2= .seq (sF rT2) rT3:=rfl
theorem agx:rT3= .seq (sF rT3) rT4:=rfl
theorem agy:rT4= .seq (sF rT4) rT5:=rfl
theorem agz:rT5= .seq (sF rT5) rT6:=rfl
theorem agA:rT6= .seq (sF rT6) rT7:=rfl
theorem agB:rT7= .seq (sF rT7) rT8:=rfl
theorem agC:rT8= .seq (sF rT8) rT9:=rfl
theorem agD:rT9= .seq (sF rT9) QT:=rfl
theorem adb:QT= .seq (sF QT) Vw:=rfl
theorem adc:Vw= .seq (sF Vw) Vx:=rfl
theorem ade:Vx= .seq (sF Vx) Vy:=rfl
theorem adf:Vy= .seq (sF Vy) ajf:=rfl
structure BX (u0:U) (h0:H) (np nf:Nat) (la fa:Option Addr) (lc fc:Nat) (σ:ku) (u:U) (h:H):Prop where
 st:jD S0 u0 h0 u h
 e1:σ 1= .slice fa nf fc
 e2:σ 2= .pointer (some ⟨h0.size,0,none⟩)
 e4:σ 4= .pointer (some ⟨h0.size+1,0,none⟩)
 e5:σ 5= .pointer (some ⟨h0.size+2,0,none⟩)
 A:jR u h h0.size [.slice la np lc]
 R:jR u h (h0.size+1) [.slice none 0 0,.slice none 0 0,.slice none 0 0,.slice none 0 0]
 F:jR u h (h0.size+2) [Jx JT 0,Jx JT 0,Jx JT 0]
 z:h0.size+3<=h.size
theorem BX.go{S:Nat->Prop}{np nf:Nat}(X:BX u0 h0 np nf la fa lc fc σ u h)(s:jD S u h u' h')(hS: ∀j,S j->h0.size+3<=j)(h1:σ' 1=σ 1)(h2:σ' 2=σ 2)(h4:σ' 4=σ 4)(h5:σ' 5=σ 5):BX u0 h0 np nf la fa lc fc σ' u' h':=
 ⟨X.st.own s λj hj=>(by have:=hS j hj;omega),by rw[h1,X.e1],by rw[h2,X.e2],by rw[h4,X.e4],by rw[h5,X.e5],X.A.step s λhj=>(by have:=hS _ hj;omega),X.R.step s λhj=>(by have:=hS _ hj;omega),X.F.step s λhj=>(by have:=hS _ hj;omega),aT X.z s.ge.sz⟩
structure CX (k b f:Nat) (ps:List kK) (cs:List jK) (vP vC vR vF:Value) (rs:List oq) (rows:List sj) (σ:ku) (u:U) (h:H):Prop where
 eb:σ 15= .pointer (some ⟨b,0,none⟩)
 ef:σ 17= .pointer (some ⟨f,0,none⟩)
 hb:b<k
 C:jR u h b [vP,vC,vR,vF]
 N:VD k u h f ps cs
 iP:jS u h vP ps
 iC:jS u h vC cs
 oR:lm k u h vR rs
 oF:lm k u h vF rows
 dis: ∀j,jL vR j-> ¬jL vF j
 kz:k<=h.size
theorem CX.go0{rows:List sj}(X:CX k b f ps cs vP vC vR vF rs rows σ u h)(s:jD S0 u h u' h')(h1:σ' 15=σ 15)(h2:σ' 17=σ 17):CX k b f ps cs vP vC vR vF rs rows σ' u' h':=
 ⟨by rw[h1,X.eb],by rw[h2,X.ef],X.hb,X.C.sZ s,X.N.sZ s,X.iP.mono s.ge,X.iC.mono s.ge,X.oR.sZ s,X.oF.sZ s,X.dis,aT X.kz s.ge.sz⟩
theorem CX.setF{v:Value}{rows rows':List sj}(X:CX k b f ps cs vP vC vR vF rs rows σ u h)(s:jD (jL vF) u h u' h')(o:lm k u' h' v rows')(hw: ∀j,jL v j->jL vF j\/h.size<=j)(h1:σ' 15=σ 15)(h2:σ' 17=σ 17):
  CX k b f ps cs vP vC vR v rs rows' σ' u' (ky h' b 3 v)/\jD (λj=>k<=j\/j=b) u h u' (ky h' b 3 v):=by
 have hk: ∀j,jL vF j->k<=j:=λj hj=>X.oF.ge hj
 have C1:=X.C.step s λhj=>by have:=hk _ hj;have:=X.hb;omega
 have sw:=C1.stepSet (i:=3) (v:=v)
 have C2:jR u' (ky h' b 3 v) b [vP,vC,vR,v]:=C1.set (i:=3) (v:=v) zP
 have hkb: ∀j,j=b-> ¬k<=j:=λj e=>by have:=X.hb;omega
 refine⟨⟨by rw[h1,X.eb],by rw[h2,X.ef],X.hb,C2,?_,(X.iP.mono s.ge).mono sw.ge,(X.iC.mono s.ge).mono sw.ge,(X.oR.step s λb hb hb2=>X.dis b hb hb2).step sw λb hb e=>hkb b e (X.oR.ge hb),o.step sw λb hb e=>hkb b e (o.ge hb),λj hj hj2=> ?_,aT X.kz (aT s.ge.sz sw.ge.sz)⟩,?_⟩
 ·obtain⟨vps,bb,l1,l2,g1,g2,g3⟩:=(X.N.step s hk).ex
  by_cases hfb:f=b
  ·exfalso
   have e1:=g1.at 1 zP
   have e2:=C1.at 1 zP
   have e0:=g1.2.1
   have e0':=C1.2.1
   rw[hfb,e0']at e0
   simp at e0
  ·by_cases hbb:bb=b
   ·exfalso
    obtain⟨va,vi,L,I,h1,-⟩:=g3.ex
    have e0:=h1.2.1
    rw[hbb,C1.2.1]at e0
    simp at e0
   ·exact⟨vps,bb,l1,l2,g1.step sw hfb,g2.mono sw.ge,g3.step sw hbb⟩
 ·rcases hw j hj2 with h|h
  ·exact X.dis j hj h
  ·have:=X.oR.lt hj;omega
 ·refine(s.mono (S':=λj=>k<=j\/j=b) λj _ hj=> .inl (hk j hj)).trans sw λj _ e=> .inr e
def vH:lq:=λf vs h K _=>(f=42/\ahG vs h K)\/(f=43/\Rl vs h K)\/(f=44/\Yo vs h K)\/(f=45/\EK vs h K)\/(f=41/\adq vs h K)\/(f=40/\Cv vs h K)\/(f=39/\Mf vs h K)\/(f=38/\RG vs h K)\/(f=37/\Yr vs h K)\/(f=36/\Rz vs h K)\/(f=35/\RJ vs h K)\/(f=34/\QU vs h K)
theorem NS:lQ Tryz.prog vH:=lY adn (lY Rm (lY ZY (lY DJ (lY aab (lY ug (lY Rv (lY VO (lY Jj (lY VK (lY VP (pX Vz)))))))))))
theorem agE {K:Value->H->Prop} {KP:List PanicEntry->H->Prop} {p:List jY} {fs:List kZ} {rows:List sj}
  (X:BX u0 h0 p.length fs.length la fa lc fc σ u h) (Y:CX k b f ps cs vP vC vR vF rs rows σ u h) (hbk:h0.size+3<=b) (hf:jS u0 h0 (.slice fa fs.length fc) fs) (hf4:fs.length<=4096) (hfa: ∀a∈fs,a.2.1.length<=8/\ ∀t∈a.2.1,jU t∈cs) (hrl:rows.length<=512)
  (hb:yR p fs=((ps,cs,rs,fs.foldl (λl a=>qF l (xA ps cs a)) rows),0,0,0)) (hK:Kb u0 h0 p fs K):wpS vH ajf (uK qy (pz K KP)) σ h:=by
 have hm:=lC
 have x1:=X.e1
 have x2:=X.e2
 have x4:=X.e4
 have x5:=X.e5
 have y15:=Y.eb
 have y17:=Y.ef
 simp only[go_sem,ajf,Vy,Vx,Vw,QT,rT9,rT8,rT7,rT6,rT5,rT4,rT3,rT2,rT1,Bq,sS,qy]
 obtain⟨I,hI⟩:=kg (α:=Nat->ku->H->Prop) λi σ h'=>σ 22= Jx JT i/\i<=fs.length/\ ∃u' vF,BX u0 h0 p.length fs.length la fa lc fc σ u' h'/\CX k b f ps cs vP vC vR vF rs ((fs.take i).foldl (λl a=>qF l (xA ps cs a)) rows) σ u' h'
 refine jE I (λi=>fs.length - i) 0 (by
  rw[hI]
  exact⟨zJ,aj _,u,vF,X.go (jD.refl S0 u h) (λ_ e=>e.elim) zJ zJ zJ zJ,Y.go0 (jD.refl S0 u h) zJ zJ⟩) ?_
 clear X Y x1 x2 x4 x5 y15 y17
 intro i σ h' hy
 rw[hI]at hy
 obtain⟨e22,hi,u',vF,X,Y⟩:=hy
 have x1:=X.e1
 have x2:=X.e2
 have x4:=X.e4
 have x5:=X.e5
 have y15:=Y.eb
 have y17:=Y.ef
 by_cases hlt:i<fs.length
 ·obtain⟨x,hs⟩:=qP hlt
  obtain⟨hx8,hxc⟩:=hfa x (aF hs)
  obtain⟨pb,po,rfl,hpb,hpu,hpz,hpr⟩:=(hf.mono X.st.ge).row i x hs
  have hprs:=hpr
  rw[kE]at hpr
  obtain⟨va,hpr,hh⟩:=hpr
  rw[hpr]at hprs
  simp only[qK,uq,ax,aC]at hpr hpu hpz
  obtain⟨p0,p1,p2⟩:=hpr
  simp(disch:=omega) only[↓reduceIte,go_sem,Co,x1,e22,y17,hlt,p0,p1,p2]
  refine jC (.inl ⟨rfl,u',f,ps,cs,x,[str x.1,va,Jx JT x.2.2],rfl,hprs,Y.N.b,zO,hxc,λu4 h4 l4 s4 hr4=>⟨jO,?_⟩⟩)
  obtain⟨Q4,hQ4⟩:=kg (xA ps cs x)
  rw[<-hQ4]at hr4
  have hrp:=hr4
  rw[xf]at hr4
  obtain⟨zv,rfl,hz4⟩:=hr4
  obtain⟨za,zc,rfl,-,-⟩:=hz4.sl
  have sX:=jD.qZ S0 u4 h4 #[Jx JT Q4.1,.slice za Q4.2.length zc] 117
  have s5:=s4.tZ sX
  have Y4:=Y.go0 (σ':=σ) s4 rfl rfl
  have Y5:=Y.go0 (σ':=σ) s5 rfl rfl
  have X5:=X.go (σ':=σ) s5 (λ_ e=>e.elim) rfl rfl rfl rfl
  have c4:=Y4.C
  have c4l:=c4.1
  have hlen:=Ma (ps:=ps) (cs:=cs) (fs.take i) rows
  rw[aR]at hlen
  simp(disch:=first|omega|simp only[zz];try omega;done) only[↓reduceIte,go_sem,y15,c4.at,c4.2.1]
  refine jC (.inr (.inl ⟨rfl,_,k,vF,_,Q4,[Jx JT Q4.1,.slice za Q4.2.length zc],rfl,Y5.oF,Y5.kz,Rep.mono sX.ge hrp,zO,λu6 h6 v6 s6 o6 w6=>⟨jO,?_⟩⟩))
  obtain⟨va6,vc6,rfl,-,-⟩:=o6.sl
  have c5:=Y5.C.step s6 λhj=>by have:=Y5.oF.ge hj;have:=Y5.hb;omega
  have c5l:=c5.1
  simp(disch:=omega) only[↓reduceIte,go_sem,y15,e22,c5.2.1,c5.2.2.1]
  have hfold:(fs.take (i+1)).foldl (λl a=>qF l (xA ps cs a)) rows=qF ((fs.take i).foldl (λl a=>qF l (xA ps cs a)) rows) Q4:=by rw[pI hs,hQ4]
  obtain⟨Y6,s7⟩:=Y5.setF (σ':=σ) s6 o6 w6 rfl rfl
  refine⟨i+1,?_,zO⟩
  rw[hI]
  refine⟨zJ,hlt,u6,.slice va6 (qF ((fs.take i).foldl (λl a=>qF l (xA ps cs a)) rows) Q4).length vc6,X5.go s7 (λj hj=>by rcases hj with hj|hj;have:=Y5.hb;omega;omega) zJ zJ zJ zJ,?_⟩
  rw[hfold]
  exact⟨by simp [jI,y15],by simp [jI,y17],Y6.hb,Y6.C,Y6.N,Y6.iP,Y6.iC,Y6.oR,Y6.oF,Y6.dis,Y6.kz⟩
 ·obtain rfl:i=fs.length:=zO
  rw[aK]at Y
  obtain⟨ra,rc,hvR,-,-⟩:=Y.oR.sl
  obtain⟨ra',rc',hvF,-,-⟩:=Y.oF.sl
  obtain⟨ra2,rc2,hvP,-,-⟩:=Y.iP.sl
  obtain⟨ra3,rc3,hvC,-,-⟩:=Y.iC.sl
  have c:=Y.C
  have cl:=c.1
  have hbz:=Y.hb
  have rl:=X.R.1
  have fl:=X.F.1
  have sw:=X.R.stepSets (l:=[vP,vC,vR,vF]) rfl
  have R1:=X.R.sets (l:=[vP,vC,vR,vF]) rfl
  have F1:=X.F.step sw λe=>by have e:h0.size+2=h0.size+1:=e;omega
  have sw2:=F1.stepSets (l:=[Jx JT 0,Jx JT 0,Jx JT 0]) rfl
  have F2:=F1.sets (l:=[Jx JT 0,Jx JT 0,Jx JT 0]) rfl
  have R2:=R1.step sw2 λe=>by have e:h0.size+1=h0.size+2:=e;omega
  have hg:=sw.ge.trans sw2.ge
  have st2:=(X.st.own sw λj e=>by have e:j=h0.size+1:=e;omega).own sw2 λj e=>by have e:j=h0.size+2:=e;omega
  have hK':=hK _ _ [vP,vC,vR,vF] st2 (by
   rw[<-BD,hb]
   exact Ej (Y.iP.mono hg) (Y.iC.mono hg) (Y.oR.iZ.mono hg) (Y.oF.iZ.mono hg))
  rw[<-BD,hb]at hK'
  have r1l:=R1.1
  have f1l:=F1.1
  have r2l:=R2.1
  have f2l:=F2.1
  subst hvR hvF hvP hvC
  simp(disch:=first|omega|simp only[zz];try omega;done) only[↓reduceIte,go_sem,Co,x1,x4,x5,e22,y15,c.at,c.2.1,X.R.2.1,X.R.2.2.1,F1.2.1,F1.2.2.1,R2.at,R2.2.1,F2.at,F2.2.1]
  exact hK'
end Go.Proofs.Z
namespace Go.Proofs.Z
open Go Go.Ev Edict
variable {b:Nat} {cs:List jK} {f:Nat} {h:H} {k:Nat} {ps:List kK} {u:U} {vC vF vP vR:Value} {σ:ku}
theorem CX.setR{v:Value}{rs rs':List oq}{rows:List sj}{σ':ku}{u':U}{h':H}(X:CX k b f ps cs vP vC vR vF rs rows σ u h)(s:jD (jL vR) u h u' h')(o:lm k u' h' v rs')(hw: ∀j,jL v j->jL vR j\/h.size<=j)(h1:σ' 15=σ 15)(h2:σ' 17=σ 17):
  CX k b f ps cs vP vC v vF rs' rows σ' u' (ky h' b 2 v)/\jD (λj=>k<=j\/j=b) u h u' (ky h' b 2 v):=by
 have hk: ∀j,jL vR j->k<=j:=λj hj=>X.oR.ge hj
 have C1:=X.C.step s λhj=>by have:=hk _ hj;have:=X.hb;omega
 have sw:=C1.stepSet (i:=2) (v:=v)
 have C2:jR u' (ky h' b 2 v) b [vP,vC,v,vF]:=C1.set (i:=2) (v:=v) zP
 have hkb: ∀j,j=b-> ¬k<=j:=λj e=>by have:=X.hb;omega
 refine⟨⟨by rw[h1,X.eb],by rw[h2,X.ef],X.hb,C2,?_,(X.iP.mono s.ge).mono sw.ge,(X.iC.mono s.ge).mono sw.ge,o.step sw λb hb e=>hkb b e (o.ge hb),(X.oF.step s λb hb hb2=>X.dis b hb2 hb).step sw λb hb e=>hkb b e (X.oF.ge hb),λj hj hj2=> ?_,aT X.kz (aT s.ge.sz sw.ge.sz)⟩,?_⟩
 ·obtain⟨vps,bb,l1,l2,g1,g2,g3⟩:=(X.N.step s hk).ex
  by_cases hfb:f=b
  ·exfalso
   have e1:=g1.at 1 zP
   have e2:=C1.at 1 zP
   have e0:=g1.2.1
   have e0':=C1.2.1
   rw[hfb,e0']at e0
   simp at e0
  ·by_cases hbb:bb=b
   ·exfalso
    obtain⟨va,vi,L,I,h1,-⟩:=g3.ex
    have e0:=h1.2.1
    rw[hbb,C1.2.1]at e0
    simp at e0
   ·exact⟨vps,bb,l1,l2,g1.step sw hfb,g2.mono sw.ge,g3.step sw hbb⟩
 ·rcases hw j hj with h|h
  ·exact X.dis j h hj2
  ·have:=X.oF.lt hj2;omega
 ·refine(s.mono (S':=λj=>k<=j\/j=b) λj _ hj=> .inl (hk j hj)).trans sw λj _ e=> .inr e
structure akS (cs:List jK) (c:jY):Prop where
 few:c.2.length<=16
 few2:c.1.2.1.length<=8
 lit: ∀x∈c.2,FL x/\x.2.1.2.1.length<=8
 con: ∀t∈kC c,t.1≠4->jU t∈cs
 gr:c.2=[]-> ∀t∈c.1.2.1,jU t∈cs
theorem ags {K:Value->H->Prop} {KP:List PanicEntry->H->Prop} {u0:U} {h0:H} {p:List jY} {fs:List kZ} {la fa:Option Addr} {lc fc:Nat}
  (X:BX u0 h0 p.length fs.length la fa lc fc σ u h) (Y:CX k b f ps cs vP vC vR vF [] [] σ u h) (hbk:h0.size+3<=b) (hl:jS u0 h0 (.slice la p.length lc) p) (hp5:p.length<=512) (hcl: ∀c∈p,akS cs c) (hf:jS u0 h0 (.slice fa fs.length fc) fs) (hf4:fs.length<=4096) (hfa: ∀a∈fs,a.2.1.length<=8/\ ∀t∈a.2.1,jU t∈cs)
  (hb:yR p fs=(adz p fs ps cs,0,0,0)) (hK:Kb u0 h0 p fs K):wpS vH Vy (uK qy (pz K KP)) σ h:=by
 have hm:=lC
 have x1:=X.e1
 have x2:=X.e2
 have x4:=X.e4
 have x5:=X.e5
 have y15:=Y.eb
 have y17:=Y.ef
 rw[adf]
 simp only[go_sem,Vy,Vx,Vw,QT,rT9,rT8,rT7,rT6,rT5,rT4,rT3,rT2,rT1,Bq,sS,sF]
 obtain⟨I,hI⟩:=kg (α:=Nat->ku->H->Prop) λi σ h'=>σ 18= Jx JT i/\i<=p.length/\ ∃u' vR vF,BX u0 h0 p.length fs.length la fa lc fc σ u' h'/\CX k b f ps cs vP vC vR vF (nY ps cs ([],[]) 0 (p.take i)).1 (nY ps cs ([],[]) 0 (p.take i)).2 σ u' h'
 refine jE I (λi=>p.length - i) 0 (by
  rw[hI]
  exact⟨zJ,aj _,u,vR,vF,X.go (jD.refl S0 u h) (λ_ e=>e.elim) zJ zJ zJ zJ,Y.go0 (jD.refl S0 u h) zJ zJ⟩) ?_
 clear X Y x1 x2 x4 x5 y15 y17
 intro i σ h' hy
 rw[hI]at hy
 obtain⟨e18,hi,u',vR,vF,X,Y⟩:=hy
 have x1:=X.e1
 have x2:=X.e2
 have x4:=X.e4
 have x5:=X.e5
 have y15:=Y.eb
 have y17:=Y.ef
 have A:=X.A
 have al:=A.1
 have hlenR:=FI (ps:=ps) (cs:=cs) (p.take i) ([],[]) 0
 simp only[aA,aR]at hlenR
 by_cases hlt:i<p.length
 ·obtain⟨x,hs⟩:=qP hlt
  have hc:=hcl x (aF hs)
  obtain⟨pb,po,rfl,hpb,hpu,hpz,hpr⟩:=(hl.mono X.st.ge).row i x hs
  rw[lH]at hpr
  obtain⟨va,vb,hpr,hh,hbd⟩:=hpr
  obtain⟨ha,hca,rfl,-,-⟩:=hh.sl
  obtain⟨ba,bca,rfl,-,-⟩:=hbd.sl
  simp only[nH,mQ,ax,aC]at hpr hpu hpz
  obtain⟨p0,p1,p2,p3⟩:=hpr
  have htk:p.take (i+1)=p.take i++[x]:=by rw[aX,hs];rfl
  have hsn:nY ps cs ([],[]) 0 (p.take (i+1))=rP ps cs (nY ps cs ([],[]) 0 (p.take i)) i x:=by
   rw[htk,DI,aR,iY zO,bJ]
  obtain⟨ST,hST⟩:=kg (nY ps cs ([],[]) 0 (p.take i))
  rw[<-hST]at Y hlenR hsn
  have sX:=jD.qZ S0 u' h' #[str x.1.1,.slice ha x.1.2.1.length hca,Jx JT x.1.2.2,.slice ba x.2.length bca] 54
  have T1:=jR.newc (u:=u') (h:=h') [str x.1.1,.slice ha x.1.2.1.length hca,Jx JT x.1.2.2,.slice ba x.2.length bca] 54
  have X1:=X.go (σ':=σ) sX (λ_ e=>e.elim) rfl rfl rfl rfl
  have Y1:=Y.go0 (σ':=σ) sX rfl rfl
  obtain⟨u1,hu1⟩:=kg (ub u' h'.size 0)
  obtain⟨h1,hh1⟩:=kg (h'.push (.cells #[str x.1.1,.slice ha x.1.2.1.length hca,Jx JT x.1.2.2,.slice ba x.2.length bca] 54))
  have hz1:h1.size=h'.size+1:=by rw[hh1];simp only[kw]
  rw[<-hu1,<-hh1]at sX X1 Y1
  have T1:jR u1 h1 h'.size [str x.1.1,.slice ha x.1.2.1.length hca,Jx JT x.1.2.2,.slice ba x.2.length bca]:=by rw[hu1,hh1];exact T1
  have t1l:=T1.1
  have hra:Rep.rep u1 h1 x.1 [str x.1.1,.slice ha x.1.2.1.length hca,Jx JT x.1.2.2]:=by rw[kE];exact⟨_,rfl,hh.mono sX.ge⟩
  by_cases he:x.2=[]
  ·have hz0:x.2.length=0:=by rw[he];rfl
   have hz0':(x.2.length:Int)=0:=zO
   have hst:rP ps cs ST i x=(ST.1,qF ST.2 (xA ps cs x.1)):=by unfold rP;rw[ah he]
   rw[hst]at hsn
   simp(disch:=first|omega|simp only[zz];try omega;done) only[↓reduceIte,go_sem,Vg,x2,e18,y17,A.at,A.2.1,hlt,p0,p1,p2,p3,<-hh1,T1.at,T1.2.1,ai hz0']
   refine jC (.inl ⟨rfl,u1,f,ps,cs,x.1,[str x.1.1,.slice ha x.1.2.1.length hca,Jx JT x.1.2.2],rfl,hra,Y1.N.b,by have:=hc.few2;omega,hc.gr he,λu4 h4 l4 s4 hr4=>⟨jO,?_⟩⟩)
   obtain⟨Q4,hQ4⟩:=kg (xA ps cs x.1)
   rw[<-hQ4]at hr4 hsn
   have hrp:=hr4
   rw[xf]at hr4
   obtain⟨zv,rfl,hz4⟩:=hr4
   obtain⟨za,zc,rfl,-,-⟩:=hz4.sl
   have sY:=jD.qZ S0 u4 h4 #[Jx JT Q4.1,.slice za Q4.2.length zc] 117
   have s5:=s4.tZ sY
   have Y4:=Y1.go0 (σ':=σ) s4 rfl rfl
   have Y5:=Y1.go0 (σ':=σ) s5 rfl rfl
   have X5:=X1.go (σ':=σ) s5 (λ_ e=>e.elim) rfl rfl rfl rfl
   have c4:=Y4.C
   have c4l:=c4.1
   simp(disch:=first|omega|simp only[zz];try omega;done) only[↓reduceIte,go_sem,y15,c4.at,c4.2.1]
   refine jC (.inr (.inl ⟨rfl,_,k,vF,_,Q4,[Jx JT Q4.1,.slice za Q4.2.length zc],rfl,Y5.oF,Y5.kz,Rep.mono sY.ge hrp,zO,λu6 h6 v6 s6 o6 w6=>⟨jO,?_⟩⟩))
   obtain⟨va6,vc6,rfl,-,-⟩:=o6.sl
   have c5:=Y5.C.step s6 λhj=>by have:=Y5.oF.ge hj;have:=Y5.hb;omega
   have c5l:=c5.1
   simp(disch:=omega) only[↓reduceIte,go_sem,y15,e18,c5.2.1,c5.2.2.1]
   obtain⟨Y6,s7⟩:=Y5.setF (σ':=σ) s6 o6 w6 rfl rfl
   refine⟨i+1,?_,zO⟩
   rw[hI]
   refine⟨zJ,hlt,u6,vR,.slice va6 (qF ST.2 Q4).length vc6,X5.go s7 (λj hj=>by rcases hj with hj|hj;have:=Y5.hb;omega;omega) zJ zJ zJ zJ,?_⟩
   rw[hsn]
   exact⟨by simp [jI,y15],by simp [jI,y17],Y6.hb,Y6.C,Y6.N,Y6.iP,Y6.iC,Y6.oR,Y6.oF,Y6.dis,Y6.kz⟩
  ·have hz0:x.2.length≠0:=λe=>he (List.length_eq_zero_iff.1 e)
   have hz0': ¬(x.2.length:Int)=0:=zO
   have hst:rP ps cs ST i x=(ST.1++[Jv ps cs i x],ST.2):=by unfold rP;rw[af he]
   rw[hst]at hsn
   simp(disch:=first|omega|simp only[zz];try omega;done) only[↓reduceIte,go_sem,Vg,x2,e18,y17,A.at,A.2.1,hlt,p0,p1,p2,p3,<-hh1,T1.at,T1.2.1,ae hz0']
   refine jC (.inr (.inr (.inl ⟨rfl,u1,f,ps,cs,_,x.2,rfl,Y1.N.b,hbd.mono sX.ge,hc.few,λy hy=>⟨(hc.lit y hy).1,(hc.lit y hy).2,λt ht=>hc.con t (by unfold kC;exact aV.2 (.inr (dG.2 ⟨y,hy,ht⟩)))⟩,λu4 h4 l4 s4 hr4=>⟨jO,?_⟩⟩)))
   obtain⟨P4,T4,N4,hP4,hT4,hN4⟩: ∃P4 T4 N4,P4=yh ps cs [] x.2/\T4=rO cs (jF x.2) x.2/\N4=wG ps cs (jF x.2) x.2:=⟨_,_,_,rfl,rfl,rfl⟩
   have hbd4:adk ps cs x.2=(((0,[]):mV),P4,T4,N4,jF x.2,0):=by rw[hP4,hT4,hN4];rfl
   rw[hbd4,sK]at hr4
   obtain⟨a0,a1,a2,a3,a4,rfl,i0,i1,i2,i3,i4⟩:=hr4
   simp only at i0 i1 i2 i3 i4
   obtain⟨V,hV⟩:=kg (jF x.2)
   rw[<-hV]at i4
   obtain⟨a4a,a4c,rfl,-,-⟩:=i4.sl
   obtain⟨b0,b0c,hb0,-,-⟩:=i0.sl
   rw[aA]at hb0
   subst hb0
   obtain⟨b1,b1c,rfl,-,-⟩:=i1.sl
   obtain⟨b2,b2c,rfl,-,-⟩:=i2.sl
   obtain⟨b3,b3c,rfl,-,-⟩:=i3.sl
   have sY:=jD.qZ S0 u4 h4 #[Jx JT 0,.slice b0 0 b0c,.slice b1 P4.length b1c,.slice b2 T4.length b2c,.slice b3 N4.length b3c,.slice a4a V.length a4c,Jx JT 0] 87
   have Z1:=jR.newc (u:=u4) (h:=h4) [Jx JT 0,.slice b0 0 b0c,.slice b1 P4.length b1c,.slice b2 T4.length b2c,.slice b3 N4.length b3c,.slice a4a V.length a4c,Jx JT 0] 87
   have s5:=s4.tZ sY
   obtain⟨u5,hu5⟩:=kg (ub u4 h4.size 0)
   obtain⟨h5,hh5⟩:=kg (h4.push (.cells #[Jx JT 0,.slice b0 0 b0c,.slice b1 P4.length b1c,.slice b2 T4.length b2c,.slice b3 N4.length b3c,.slice a4a V.length a4c,Jx JT 0] 87))
   have hz5:h5.size=h4.size+1:=by rw[hh5];simp only[kw]
   rw[<-hu5,<-hh5]at sY s5
   have Z1:jR u5 h5 h4.size [Jx JT 0,.slice b0 0 b0c,.slice b1 P4.length b1c,.slice b2 T4.length b2c,.slice b3 N4.length b3c,.slice a4a V.length a4c,Jx JT 0]:=by rw[hu5,hh5];exact Z1
   have Y5:=Y1.go0 (σ':=σ) s5 rfl rfl
   have X5:=X1.go (σ':=σ) s5 (λ_ e=>e.elim) rfl rfl rfl rfl
   have T5:=T1.sZ s5
   have t5l:=T5.1
   have z1l:=Z1.1
   have hz4:=s4.ge.sz
   simp(disch:=first|omega|simp only[zz];try omega;done) only[↓reduceIte,go_sem,<-hh5,y17,Z1.at,Z1.2.1,T5.at,T5.2.1]
   refine jC (.inr (.inr (.inr (.inl ⟨rfl,u5,f,ps,cs,x.1,[str x.1.1,.slice ha x.1.2.1.length hca,Jx JT x.1.2.2],_,V,rfl,Rep.mono s5.ge hra,Y5.N.b,i4.mono sY.ge,by have:=hc.few2;omega,λt ht=>hc.con t (by unfold kC;exact aV.2 (.inl ht)),λu6 h6 l6 s6 hr6=>⟨jO,?_⟩⟩))))
   obtain⟨Q6,hQ6⟩:=kg (Oi ps cs V x.1)
   rw[<-hQ6,nA]at hr6
   obtain⟨qv,rfl,iq⟩:=hr6
   obtain⟨qa,qc,rfl,-,-⟩:=iq.sl
   have Z6:=Z1.sZ s6
   have Y6:=Y5.go0 (σ':=σ) s6 rfl rfl
   have X6:=X5.go (σ':=σ) s6 (λ_ e=>e.elim) rfl rfl rfl rfl
   have z6l:=Z6.1
   have W1:=Z6.stepSet (i:=0) (v:= Jx JT Q6.1)
   have Z7:=Z6.set (i:=0) (v:= Jx JT Q6.1) zP
   have W2:=Z7.stepSet (i:=1) (v:= .slice qa Q6.2.length qc)
   have Z8:=Z7.set (i:=1) (v:= .slice qa Q6.2.length qc) zP
   have W3:=Z8.stepSet (i:=6) (v:= Jx JT i)
   have Z9:=Z8.set (i:=6) (v:= Jx JT i) zP
   obtain⟨h9,hh9⟩:=kg (ky (ky (ky h6 h4.size 0 (Jx JT Q6.1)) h4.size 1 (.slice qa Q6.2.length qc)) h4.size 6 (Jx JT i))
   have W12:=(W1.trans W2 λj _ e=>e).trans W3 λj _ e=>e
   rw[<-hh9]at W12 Z9
   have Z9:jR u6 h9 h4.size [Jx JT Q6.1,.slice qa Q6.2.length qc,.slice b1 P4.length b1c,.slice b2 T4.length b2c,.slice b3 N4.length b3c,.slice a4a V.length a4c,Jx JT i]:=Z9
   have Y9:CX k b f ps cs vP vC vR vF ST.1 ST.2 σ u6 h9:=by
    have hS: ∀j,j=h4.size->k<=j:=λj e=>by have:=Y1.kz;omega
    have nb: ∀j,j<k-> ¬j=h4.size:=λj h1 e=>by have:=hS j e;omega
    exact⟨y15,y17,Y6.hb,Y6.C.step W12 (nb _ Y6.hb),Y6.N.step W12 hS,Y6.iP.mono W12.ge,Y6.iC.mono W12.ge,Y6.oR.step W12 λj hj e=>(by have e:j=h4.size:=e;have:=Y1.oR.lt hj;omega),Y6.oF.step W12 λj hj e=>(by have e:j=h4.size:=e;have:=Y1.oF.lt hj;omega),Y6.dis,aT Y6.kz W12.ge.sz⟩
   have X9:=X6.go (σ':=σ) W12 (λj e=>by have e:j=h4.size:=e;have:=X1.z;omega) rfl rfl rfl rfl
   have c9:=Y9.C
   have c9l:=c9.1
   have z9l:=Z9.1
   obtain⟨na,nc,hvRe,-,-⟩:=Y9.oR.sl
   have g6:=s6.ge.trans W12.ge
   have hRu:Jv ps cs i x=((Q6.1,Q6.2),P4,T4,N4,V,(i:Int)):=by rw[hQ6,hP4,hT4,hN4,hV];rfl
   have hr9:Rep.rep u6 h9 (Jv ps cs i x) [Jx JT Q6.1,.slice qa Q6.2.length qc,.slice b1 P4.length b1c,.slice b2 T4.length b2c,.slice b3 N4.length b3c,.slice a4a V.length a4c,Jx JT i]:=by
    rw[hRu,sK]
    have gg:=sY.ge.trans g6
    exact⟨_,_,_,_,_,rfl,iq.mono W12.ge,i1.mono gg,i2.mono gg,i3.mono gg,i4.mono gg⟩
   have zc:=X9.z
   simp only[↓reduceIte,go_sem,e18,y15,Z6.2.1,Z6.2.2.1]
   have hre:ky (jW h6 h4.size 0 [Jx JT Q6.1,.slice qa Q6.2.length qc]) h4.size 6 (Jx JT i)=h9:=hh9.symm
   simp only[hre]
   have c6:=Y6.C
   have c6l:=c6.1
   have hz96:h6.size=h9.size:=by rw[hh9];simp only[wS]
   have hbz:=Y6.hb
   subst hvRe
   simp(disch:=first|omega|simp only[zz];try omega;done) only[go_sem,Z6.2.1,Z6.2.2.1,c9.at,Z9.at,jP,jQ,lI,c6.2.1]
   refine kW (e':=87) (cs:=[Jx JT Q6.1,.slice qa Q6.2.length qc,.slice b1 P4.length b1c,.slice b2 T4.length b2c,.slice b3 N4.length b3c,.slice a4a V.length a4c,Jx JT i]) hz96 Y9.oR hr9 rfl rfl Y9.kz zO λa10 n10 c10 u10 h10 o10 s10 w10=>⟨jO,?_⟩
   obtain⟨xa10,xc10,hx10,-,-⟩:=o10.sl
   cases hx10
   have d10:=Y9.C.step s10 λhj=>by have:=Y9.oR.ge hj;omega
   have d10l:=d10.1
   obtain⟨Y11,s11⟩:=Y9.setR (σ':=σ) s10 o10 w10 rfl rfl
   have hle:(ST.1++[Jv ps cs i x]).length=ST.1.length+1:=by rw[ay];rfl
   rw[hle]at Y11 s11
   simp(disch:=omega) only[↓reduceIte,go_sem,e18,y15,d10.2.1,d10.2.2.1]
   refine⟨i+1,?_,zO⟩
   rw[hI]
   refine⟨zJ,hlt,u10,.slice a10 (ST.1.length+1) c10,vF,X9.go s11 (λj hj=>by rcases hj with hj|hj;omega;omega) zJ zJ zJ zJ,?_⟩
   rw[hsn]
   exact⟨by simp [jI,y15],by simp [jI,y17],Y11.hb,Y11.C,Y11.N,Y11.iP,Y11.iC,Y11.oR,Y11.oF,Y11.dis,Y11.kz⟩
 ·obtain rfl:i=p.length:=zO
  rw[aK]at Y hlenR
  simp(disch:=first|omega|simp only[zz];try omega;done) only[↓reduceIte,go_sem,Vg,x2,e18,A.at,A.2.1]
  refine agE (X.go (jD.refl S0 u' h') (λ_ e=>e.elim) zJ zJ zJ zJ) (Y.go0 (jD.refl S0 u' h') zJ zJ) hbk hf hf4 hfa zO ?_ hK
  rw[hb];rfl
end Go.Proofs.Z
namespace Edict
theorem xz: ∀(l:List nV) (seen:List jK),seen.Nodup->(seen++(kL seen l).map λx=>jU x.1).Nodup
 |[],seen,h=>by simpa [kL]using h
 |x::l,seen,h=>by
  by_cases hx:x.1.1=4\/jU x.1∈seen
  ·rw[wI hx];exact xz l seen h
  ·rw[uH hx,aS]
   have hn:jU x.1 ∉ seen:=λe=>hx (.inr e)
   have:=xz l (seen++[jU x.1]) (iB.2 ⟨h,iX.2 ⟨zP,List.nodup_nil⟩,λa ha b hb e=>by rcases aY.1 hb with rfl;exact hn (e▸ha)⟩)
   rw[bE]at this
   exact this
end Edict
namespace Go.Proofs.Z
open Go Go.Ev Edict
theorem agr {K:Value->H->Prop} {KP:List PanicEntry->H->Prop} {u0:U} {h0:H} {p:List jY} {fs:List kZ} {la fa:Option Addr} {lc fc:Nat} {σ:ku} {u:U} {h:H} {ps:List kK} {F:List nV} {vP vL:Value}
  (X:BX u0 h0 p.length fs.length la fa lc fc σ u h) (e8:σ 8=vP) (iP:jS u h vP ps) (e13:σ 13=vL) (iL:jS u h vL F) (hF:F.length<=65536) (hFn:(F.map λx=>jU x.1).Nodup) (hFt:adu F)
  (hl:jS u0 h0 (.slice la p.length lc) p) (hp5:p.length<=512) (hcl: ∀c∈p,akS (F.map λx=>jU x.1) c) (hf:jS u0 h0 (.slice fa fs.length fc) fs) (hf4:fs.length<=4096) (hfa: ∀a∈fs,a.2.1.length<=8/\ ∀t∈a.2.1,jU t∈F.map λx=>jU x.1)
  (hb:yR p fs=(adz p fs ps (F.map λx=>jU x.1),0,0,0)) (hK:Kb u0 h0 p fs K):wpS vH QT (uK qy (pz K KP)) σ h:=by
 have hm:=lC
 obtain⟨pa,pc,rfl,q1,q2⟩:=iP.sl
 obtain⟨wa,wc,rfl,q3,q4⟩:=iL.sl
 rw[adb,adc,ade]
 have sX:=jD.qZ S0 u h #[.slice pa ps.length pc,.slice none 0 0,.slice none 0 0,.slice none 0 0] 38
 have C1:=jR.newc (u:=u) (h:=h) [.slice pa ps.length pc,.slice none 0 0,.slice none 0 0,.slice none 0 0] 38
 have hz:=X.z
 simp(disch:=omega) only[↓reduceIte,go_sem,Vx,Vw,QT,rT9,rT8,rT7,rT6,rT5,rT4,rT3,rT2,rT1,Bq,sS,sF,e8]
 obtain⟨I,hI⟩:=kg (α:=Nat->ku->H->Prop) λi σ h'=>σ 13= .slice wa F.length wc/\σ 15= .pointer (some ⟨h.size,0,none⟩)/\σ 16= Jx JT i/\σ 8= .slice pa ps.length pc/\i<=F.length/\ ∃u' w,BX u0 h0 p.length fs.length la fa lc fc σ u' h'/\jD S0 u h u' h'/\jR u' h' h.size [.slice pa ps.length pc,w,.slice none 0 0,.slice none 0 0]/\h.size+1<=h'.size/\lm (h.size+1) u' h' w ((F.take i).map λx=>jU x.1)
 refine jE I (λi=>F.length - i) 0 (by
  rw[hI]
  exact⟨by simp [jI,e13],zJ,zJ,by simp [jI,e8],aj _,_,_,X.go sX (λ_ e=>e.elim) zJ zJ zJ zJ,sX,C1,zY,.nil _ _ _⟩) ?_
 clear sX C1
 intro i τ h' hy
 rw[hI]at hy
 obtain⟨f13,f15,f16,f8,hi,u',w,X1,st,C,hz1,ow⟩:=hy
 obtain⟨oa,oc,rfl,-,-⟩:=ow.sl
 have cl:=C.1
 by_cases hlt:i<F.length
 ·obtain⟨x,hs⟩:=qP hlt
  obtain⟨pb,po,rfl,hpb,hpu,hpz,hpr⟩:=(iL.mono st.ge).row i x hs
  simp only[ni,nV.enc,sO,qU,ax,aC]at hpr hpu hpz
  obtain⟨p0,p1,p2,p3,p4,p5⟩:=hpr
  have hln:((F.take i).map λx=>jU x.1).length<=i:=by rw[aU,aR];exact eO _ _
  have htk:=nU (f:=λx:nV=>jU x.1) hs
  obtain⟨Z,hZ⟩:=kg ((F.take i).map λx=>jU x.1)
  rw[<-hZ]at ow hln htk C
  simp(disch:=first|omega|simp only[zz];try omega;done) only[↓reduceIte,go_sem,Vf,f13,f15,f16,hlt,p0,p1,p2,p3,C.at,C.2.1]
  refine jC (.inr (.inr (.inr (.inr (.inr (.inl ⟨rfl,u',x.1,rfl,λu4 h4 s4=> ?_⟩))))))
  have C4:=C.sZ s4
  have c4l:=C4.1
  refine⟨by simp(disch:=first|omega|simp only[zz];try omega;done) only[↓reduceIte,go_sem,f15,C.at,C4.at,C4.2.1],?_⟩
  have st4:=st.tZ s4
  have ow4:=ow.sZ s4
  have hz4:=s4.ge.sz
  have hce:(jK.enc (jU x.1)).toArray= #[Jx JT x.1.1,Jx JT x.1.2.1,str x.1.2.2.1]:=rfl
  have hrc:Rep.rep u4 h4 (jU x.1) [Jx JT x.1.1,Jx JT x.1.2.1,str x.1.2.2.1]:=by rw[mZ];rfl
  simp(disch:=first|omega|simp only[zz];try omega;done) only[↓reduceIte,go_sem,f15,hce,C4.at,C4.2.1]
  refine kW (e':=108) (cs:=[Jx JT x.1.1,Jx JT x.1.2.1,str x.1.2.2.1]) rfl ow4 hrc rfl rfl zO zO λa9 n9 c9 u9 h9 o9 s9 w9=>⟨jO,?_⟩
  obtain⟨xa9,xc9,hx9,-,-⟩:=o9.sl
  cases hx9
  have C9:=C4.step s9 λhj=>by have:=ow4.ge hj;omega
  have c9l:=C9.1
  have sw:=C9.stepSet (i:=1) (v:= .slice a9 (Z++[jU x.1]).length c9)
  have C10:jR u9 (ky h9 h.size 1 (.slice a9 (Z++[jU x.1]).length c9)) h.size [.slice pa ps.length pc,.slice a9 (Z++[jU x.1]).length c9,.slice none 0 0,.slice none 0 0]:=C9.set (i:=1) (v:= .slice a9 (Z++[jU x.1]).length c9) zP
  have o10:=o9.step sw λb hb e=>by have e:b=h.size:=e;have:=o9.ge hb;omega
  have st10:=(st4.own s9 λj hj=>by have:=ow4.ge hj;omega).own sw λj e=>by have e:j=h.size:=e;omega
  have hz10:=aT s9.ge.sz sw.ge.sz
  have X10:=((X1.go (σ':=τ) s4 (λ_ e=>e.elim) rfl rfl rfl rfl).go (σ':=τ) s9 (λj hj=>by have:=ow4.ge hj;omega) rfl rfl rfl rfl).go (σ':=τ) sw (λj e=>by have e:j=h.size:=e;omega) rfl rfl rfl rfl
  have hle:(Z++[jU x.1]).length=Z.length+1:=by rw[ay];rfl
  simp(disch:=omega) only[↓reduceIte,go_sem,f15,f16,C9.2.1,C9.2.2.1]
  rw[<-hle]
  refine⟨i+1,?_,zO⟩
  rw[hI]
  exact⟨by simp [jI,f13],by simp [jI,f15],zJ,by simp [jI,f8],hlt,u9,.slice a9 (Z++[jU x.1]).length c9,X10.go (jD.refl S0 _ _) (λ_ e=>e.elim) zJ zJ zJ zJ,st10,C10,zO,by rw[htk];exact o10⟩
 ·obtain rfl:i=F.length:=zO
  rw[aK]at ow C
  obtain⟨cs,hcs⟩:=kg (F.map λx=>jU x.1)
  have hcsl:cs.length<=65536:=by rw[hcs,aU];exact hF
  rw[<-hcs]at ow C hFn hcl hfa hb
  have iC:=ow.iZ
  simp(disch:=first|omega|simp only[zz];try omega;done) only[↓reduceIte,go_sem,Vf,f13,f15,f16,C.at,C.2.1]
  refine jC (.inr (.inr (.inr (.inr (.inl ⟨rfl,u',_,cs,rfl,iC,hcsl,hFn,λc hc=>by
   rw[hcs]at hc
   obtain⟨x,hx,rfl⟩:=bF.1 hc
   exact hFt x hx,λu4 h4 bb s4 hbb hB=>⟨jO,?_⟩⟩)))))
  have C4:=C.sZ s4
  have sY:=jD.qZ S0 u4 h4 #[.slice pa ps.length pc,.pointer (some ⟨bb,0,none⟩)] 114
  have Fr:=jR.newc (u:=u4) (h:=h4) [.slice pa ps.length pc,.pointer (some ⟨bb,0,none⟩)] 114
  have s5:=s4.tZ sY
  have hbl:bb<h4.size:=by obtain⟨_,_,_,_,hb,-⟩:=hB.ex;exact hb.1
  have hz4:=s4.ge.sz
  simp only[↓reduceIte,go_sem,f8]
  have hnil: ∀j:Nat,¬jL (.slice none 0 0) j:=λj hj=>by obtain⟨_,_,_,e⟩:=hj;cases e
  refine ags (k:=h4.size+1) (b:=h.size) (f:=h4.size) (ps:=ps) (cs:=cs) (X1.go s5 (λ_ e=>e.elim) zJ zJ zJ zJ) ⟨by simp [jI,f15],zJ,zO,C4.sZ sY,⟨_,bb,zO,zO,Fr,((iP.mono st.ge).mono s5.ge),hB.sZ sY⟩,(iP.mono st.ge).mono s5.ge,iC.mono s5.ge,.nil _ _ _,.nil _ _ _,λj hj=>absurd hj (hnil j),zY⟩ hz hl hp5 hcl hf hf4 hfa hb hK
end Go.Proofs.Z
namespace Edict
variable {fs:List kZ} {p:List jY} {x:jZ}
theorem QN(h:vk x=0):x.1=1\/x.1=2\/x.1=3:=by
 unfold vk at h
 by_cases h1:x.1=1\/x.1=2
 ·omega
 ·rw[af h1]at h
  by_cases h3:x.1=3
  ·exact .inr (.inr h3)
  ·rw[af h3]at h;cases h
theorem ac8(h:vk x=0):x.2.1.2.1.length<=8:=by
 unfold vk at h
 by_cases h1:x.1=1\/x.1=2
 ·rw[ah h1]at h
  split at h
  ·exact vO h
  ·cases h
 ·rw[af h1]at h
  by_cases h3:x.1=3
  ·rw[ah h3]at h
   unfold Sd at h
   split at h
   ·cases h
   ·rename_i hh
    have hn:x.2.1.2.1=[]:=dw λe=>hh (.inr (.inr (.inr e)))
    rw[hn];exact aj _
  ·rw[af h3]at h;cases h
theorem agl(h:wF p fs≠(0,0,0)):yR p fs=(qH,wF p fs):=by unfold yR;rw[ah h]
theorem agm(h:wF p fs=(0,0,0))(h2:(sP [] (kI p fs)).2≠(0,0,0)):yR p fs=(qH,(sP [] (kI p fs)).2):=by unfold yR;rw[af (by simp [h]),ah h2]
theorem agn(h:wF p fs=(0,0,0))(h2:(sP [] (kI p fs)).2=(0,0,0))(h3:mF p≠(0,0,0)):yR p fs=(qH,mF p):=by unfold yR;rw[af (by simp [h]),af (by simp [h2]),ah h3]
theorem ZQ(h:wF p fs=(0,0,0))(h2:(sP [] (kI p fs)).2=(0,0,0))(h3:mF p=(0,0,0)){x:nV}(h4:(kL [] (sQ p fs))[65536]? =some x):yR p fs=(qH,6,x.2.1,x.1.2.2.2):=by unfold yR;rw[af (by simp [h]),af (by simp [h2]),af (by simp [h3]),h4]
theorem agp(h:wF p fs=(0,0,0))(h2:(sP [] (kI p fs)).2=(0,0,0))(h3:mF p=(0,0,0))(h4:(kL [] (sQ p fs))[65536]? =none):yR p fs=(adz p fs (sP [] (kI p fs)).1 ((kL [] (sQ p fs)).map λx=>jU x.1),0,0,0):=by unfold yR;rw[af (by simp [h]),af (by simp [h2]),af (by simp [h3]),h4]
theorem QO{t:jM}(ht:t∈p.flatMap kC\/t∈fs.flatMap (·.2.1))(h4:t.1≠4):jU t∈(kL [] (sQ p fs)).map λx=>jU x.1:=by
 have h:=sU (sQ p fs) []
 rw[aJ]at h
 rw[h]
 have hm:(sQ p fs).map (·.1)=p.flatMap kC++fs.flatMap (·.2.1):=by
  unfold sQ;rw[Ar,bH]
  congr 1
  ·unfold wQ;rw[eG];exact gV _
  ·unfold Au;rw[eG];exact gV _
 rw[hm]
 have hmem:t∈p.flatMap kC++fs.flatMap (·.2.1):=aV.2 ht
 generalize p.flatMap kC++fs.flatMap (·.2.1)=L at hmem
 have keep: ∀(l:List jM) (cs:List jK) (c:jK),c∈cs->c∈l.foldl pR cs:=by
  intro l
  induction l with
  |nil=>intro cs c h;exact h
  |cons y l ih=>
   intro cs c h
   refine ih _ _ ?_
   unfold pR
   split
   ·exact h
   ·simp [h]
 have key: ∀(l:List jM) (cs:List jK),t∈l->jU t∈l.foldl pR cs:=by
  intro l
  induction l with
  |nil=>intro cs h;simp at h
  |cons y l ih=>
   intro cs h
   rcases aH.1 h with rfl|h
   ·refine keep l _ _ ?_
    unfold pR
    split
    ·rename_i hc
     exact hc.resolve_left h4
    ·simp
   ·exact ih _ h
 exact key L [] hmem
theorem QQ(hp:Go.Ev.Rep.wf p)(hf:Go.Ev.Rep.wf fs): ∀x∈sQ p fs,x.1.2.2.1.length<=9223372036854775807:=by
 intro x hx
 obtain⟨i,h1,-⟩:=Oa _ 0 hx
 have hm:=aF h1
 rcases aV.1 hm with hm|hm
 ·unfold wQ at hm
  obtain⟨t,ht,e⟩:=bF.1 hm
  obtain⟨c,hc,ht⟩:=dG.1 ht
  have hw:=hp.2 c hc
  have e1:x.1=t:=(ib e).1.symm
  rw[e1]
  unfold kC at ht
  rcases aV.1 ht with ht|ht
  ·exact(hw.1.2.1.2 t ht).2.2.1
  ·obtain⟨y,hy,ht⟩:=dG.1 ht
   have hyw:=hw.2.2 y hy
   unfold kQ at ht
   split at ht
   ·exact(hyw.2.1.2.1.2 t ht).2.2.1
   ·split at ht
    ·rcases aH.1 ht with rfl|ht
     ·exact hyw.2.2.2.1.2.2.1
     ·rcases aY.1 ht with rfl;exact hyw.2.2.2.2.1.2.2.1
    ·simp at ht
 ·unfold Au at hm
  obtain⟨t,ht,e⟩:=bF.1 hm
  obtain⟨a,ha,ht⟩:=dG.1 ht
  have e1:x.1=t:=(ib e).1.symm
  rw[e1]
  exact((hf.2 a ha).2.1.2 t ht).2.2.1
end Edict
namespace Go.Proofs.Z
open Go Go.Ev Edict
variable {K:Value->H->Prop} {KP:List PanicEntry->H->Prop} {fa:Option Addr} {fc:Nat} {fs:List kZ} {h h0:H} {la:Option Addr} {lc:Nat} {p:List jY} {u u0:U} {vP:Value} {σ:ku}
theorem BX.out{a b c:Int}(X:BX u0 h0 p.length fs.length la fa lc fc σ u h)(hb:yR p fs=(qH,a,b,c))(hK:Kb u0 h0 p fs K):
  ∃H1 H2,H1=jW h (h0.size+1) 0 [.slice none 0 0,.slice none 0 0,.slice none 0 0,.slice none 0 0]/\H2=jW H1 (h0.size+2) 0 [Jx JT a,Jx JT b,Jx JT c]/\K (.tuple #[.agg #[.slice none 0 0,.slice none 0 0,.slice none 0 0,.slice none 0 0],fV (a,b,c)]) H2/\jR u H1 (h0.size+2) [Jx JT 0,Jx JT 0,Jx JT 0]/\jR u H2 (h0.size+1) [.slice none 0 0,.slice none 0 0,.slice none 0 0,.slice none 0 0]/\jR u H2 (h0.size+2) [Jx JT a,Jx JT b,Jx JT c]/\jD (λj=>j=h0.size+1) u h u H1:=by
 have sw:=X.R.stepSets (l:=[.slice none 0 0,.slice none 0 0,.slice none 0 0,.slice none 0 0]) rfl
 have R1:=X.R.sets (l:=[.slice none 0 0,.slice none 0 0,.slice none 0 0,.slice none 0 0]) rfl
 have F1:=X.F.step sw λe=>by have e:h0.size+2=h0.size+1:=e;omega
 have sw2:=F1.stepSets (l:=[Jx JT a,Jx JT b,Jx JT c]) rfl
 have F2:=F1.sets (l:=[Jx JT a,Jx JT b,Jx JT c]) rfl
 have R2:=R1.step sw2 λe=>by have e:h0.size+1=h0.size+2:=e;omega
 have st2:=(X.st.own sw λj e=>by have e:j=h0.size+1:=e;omega).own sw2 λj e=>by have e:j=h0.size+2:=e;omega
 have hK':=hK _ _ [.slice none 0 0,.slice none 0 0,.slice none 0 0,.slice none 0 0] st2 (by
  rw[<-BD,hb]
  exact Ej (jS.nil _ _) (jS.nil _ _) (jS.nil _ _) (jS.nil _ _))
 rw[<-BD,hb]at hK'
 exact⟨_,_,rfl,rfl,hK',F1,R2,F2,sw⟩
structure GvX (u0:U) (h0:H) (p:List jY) (fs:List kZ) (la fa:Option Addr) (lc fc:Nat):Prop where
 hl:jS u0 h0 (.slice la p.length lc) p
 hf:jS u0 h0 (.slice fa fs.length fc) fs
 wp:Rep.wf p
 wf:Rep.wf fs
 gv:wF p fs=(0,0,0)
theorem ajd
  (Z:GvX u0 h0 p fs la fa lc fc) (X:BX u0 h0 p.length fs.length la fa lc fc σ u h) (e8:σ 8=vP) (iP:jS u h vP (sP [] (kI p fs)).1) (h2:(sP [] (kI p fs)).2=(0,0,0)) (h3:mF p=(0,0,0)) (hK:Kb u0 h0 p fs K):wpS vH rT7 (uK qy (pz K KP)) σ h:=by
 have hm:=lC
 obtain⟨g1,g2,g3⟩:=DW Z.gv
 obtain⟨w1,w2⟩:=uZ g1
 have x1:=X.e1
 have x2:=X.e2
 have x4:=X.e4
 have x5:=X.e5
 have A:=X.A
 have al:=A.1
 have hpT: ∀c∈p,(kC c).length<=136/\ ∀x∈c.2,FL x:=λc hc=>⟨FV (w2 c hc),λx hx=>QN (qO (by
  have:=w2 c hc
  unfold lw at this
  split at this
  ·split at this
   ·cases this
   ·exact this
  ·rename_i hh;exact absurd this hh) x hx)⟩
 have hf8: ∀a∈fs,a.2.1.length<=8:=λa ha=>vO (ahJ (g3 a ha))
 rw[agB,agC,agD]
 simp(disch:=first|omega|simp only[zz];try omega;done) only[↓reduceIte,go_sem,rT9,rT8,rT7,rT6,rT5,rT4,rT3,rT2,rT1,Bq,sS,sF,x1,x2,A.at,A.2.1]
 refine jC (.inr (.inr (.inr (.inr (.inr (.inr (.inr (.inl ⟨rfl,u,_,_,p,fs,rfl,Z.hl.mono X.st.ge,Z.hf.mono X.st.ge,w1,hpT,g2,hf8,λu2 h2' w2' s2 hw2=>⟨jO,?_⟩⟩))))))))
 have hraw1:=Jn λc hc=>(hpT c hc).1
 have hraw2:=RF hf8
 have hpl:(sQ p fs).length<=1000000:=by unfold sQ;rw[Aq,ay];omega
 simp only[↓reduceIte,go_sem,jN]
 refine jC (.inr (.inr (.inr (.inr (.inr (.inr (.inl ⟨rfl,u2,_,sQ p fs,rfl,hw2,hpl,Oh _ _,QQ Z.wp Z.wf,λu3 h3' w3 s3 hw3=>⟨jO,?_⟩⟩)))))))
 have s23:=s2.tZ s3
 obtain⟨F,hF⟩:=kg (kL [] (sQ p fs))
 rw[<-hF]at hw3
 obtain⟨wa,wc,rfl,-,-⟩:=hw3.sl
 by_cases hlen:F.length<=65536
 ·have h4:(kL [] (sQ p fs))[65536]? =none:=by rw[<-hF];exact iH.2 hlen
  have hb:=agp Z.gv h2 h3 h4
  rw[<-hF]at hb
  simp only[↓reduceIte,go_sem,ae (show¬(65536:Int)<F.length by omega)]
  have hnd:=xz (sQ p fs) [] List.nodup_nil
  rw[aJ,<-hF]at hnd
  refine agr (X.go s23 (λ_ e=>e.elim) zJ zJ zJ zJ) (by simp [jI,e8]) (iP.mono s23.ge) zJ hw3 hlen hnd (λx hx=>QQ Z.wp Z.wf x ((rW _ _).mem (hF▸hx))) Z.hl w1 (λc hc=> ?_) Z.hf g2 (λa ha=>⟨hf8 a ha,λt ht=> ?_⟩) hb hK
  ·have hcw:=w2 c hc
   have hca:=ve hcw
   have hcon: ∀t∈kC c,t.1≠4->jU t∈F.map λx=>jU x.1:=λt ht h4=>by
    rw[hF];exact QO (.inl (dG.2 ⟨c,hc,ht⟩)) h4
   refine⟨hca.1,vO (hca.2 c.1 (by unfold kJ;exact bu ..)),λx hx=>⟨(hpT c hc).2 x hx,ac8 (qO (by
    unfold lw at hcw
    split at hcw
    ·split at hcw
     ·cases hcw
     ·exact hcw
    ·rename_i hh;exact absurd hcw hh) x hx)⟩,hcon,λhe t ht=> ?_⟩
   refine hcon t (by unfold kC;exact aV.2 (.inl ht)) λh4=> ?_
   have hlo:=(FU (Cz h3 c hc)).2
   unfold wJ at hlo
   rw[dF]at hlo
   have:=hlo t (by unfold oU;exact aV.2 (.inl ht))
   apply this
   rw[vK]
   refine⟨h4,.inr ?_⟩
   rw[he];unfold jF;simp
  ·rw[hF]
   refine QO (.inr (dG.2 ⟨a,ha,ht⟩)) λh4=> ?_
   have:=g3 a ha
   unfold JE at this
   rw[aM,bI]at this
   have:=this.2 t ht
   rw[h4]at this
   simp at this
 ·obtain⟨x,hx⟩: ∃x,F[65536]? =some x:=⟨F[65536]'zO,by rw[bf zO]⟩
  have hb:=ZQ Z.gv h2 h3 (hF▸hx)
  obtain⟨pb,po,rfl,hpb,hpu,hpz,hpr⟩:=hw3.row 65536 x hx
  simp only[ni,nV.enc,sO,qU,ax,aC]at hpr hpu hpz
  obtain⟨p0,p1,p2,p3,p4,p5⟩:=hpr
  have sp:=jD.qZ S0 u3 h3' #[Jx JT x.1.1,Jx JT x.1.2.1,str x.1.2.2.1,Jx JT x.1.2.2.2,Jx JT x.2.1,Jx JT x.2.2] 106
  have T1:=jR.newc (u:=u3) (h:=h3') [Jx JT x.1.1,Jx JT x.1.2.1,str x.1.2.2.1,Jx JT x.1.2.2.2,Jx JT x.2.1,Jx JT x.2.2] 106
  have X9:=(X.go (σ':=σ) s23 (λ_ e=>e.elim) rfl rfl rfl rfl).go (σ':=σ) sp (λ_ e=>e.elim) rfl rfl rfl rfl
  have hzz:h0.size+3<=h3'.size:=aT X.z s23.ge.sz
  obtain⟨H1,H2,hH1,hH2,k,F1,R2,F2,sw⟩:=X9.out hb hK
  have T2:=T1.step sw λe=>by have e:h3'.size=h0.size+1:=e;omega
  have hR:=X9.R.2.1
  have hR2:=X9.R.2.2.1
  clear hzz
  have q4:=T1.at 4 zP
  have q3:=T1.at 3 zP
  have q40:=T2.at 4 zP
  have q30:=T2.at 3 zP
  rw[hH1]at T2 F1 sw q40 q30 hH2
  rw[hH2]at k R2 F2
  simp(disch:=first|omega|simp only[zz];try omega;done) only[↓reduceIte,go_sem,ai (show(65536:Int)<F.length by omega),p0,p1,p2,p3,p4,p5,x4,x5,qy,hR,hR2,T2.at,T2.2.1,F1.2.1,F1.2.2.1,R2.at,R2.2.1,F2.at,F2.2.1]
  exact k
theorem QR{c:jY}{l:List jY}:mF (c::l)=if lh c=(0,0,0)then mF l else lh c:=rfl
theorem aje
  (Z:GvX u0 h0 p fs la fa lc fc) (X:BX u0 h0 p.length fs.length la fa lc fc σ u h) (e8:σ 8=vP) (iP:jS u h vP (sP [] (kI p fs)).1) (h2:(sP [] (kI p fs)).2=(0,0,0)) (hK:Kb u0 h0 p fs K):wpS vH rT6 (uK qy (pz K KP)) σ h:=by
 have hm:=lC
 obtain⟨g1,g2,g3⟩:=DW Z.gv
 obtain⟨w1,w2⟩:=uZ g1
 have hl:=Z.hl
 rw[agA]
 simp only[go_sem,rT6,rT5,rT4,rT3,rT2,rT1,Bq,sS,sF]
 obtain⟨I,hI⟩:=kg (α:=Nat->ku->H->Prop) λi σ h'=>σ 9= Jx JT i/\σ 8=vP/\i<=p.length/\mF p=mF (p.drop i)/\ ∃u',BX u0 h0 p.length fs.length la fa lc fc σ u' h'/\jS u' h' vP (sP [] (kI p fs)).1
 refine jE I (λi=>p.length - i) 0 (by
  rw[hI]
  exact⟨zJ,by simp [jI,e8],aj _,rfl,u,X.go (jD.refl S0 u h) (λ_ e=>e.elim) zJ zJ zJ zJ,iP⟩) ?_
 clear X iP e8
 intro i σ h' hy
 rw[hI]at hy
 obtain⟨e9,e8,hi,heq,u',X,iP⟩:=hy
 have x1:=X.e1
 have x2:=X.e2
 have x4:=X.e4
 have x5:=X.e5
 have A:=X.A
 have al:=A.1
 have hz:=X.z
 by_cases hlt:i<p.length
 ·obtain⟨x,hs⟩:=qP hlt
  have hdr:p.drop i=x::p.drop (i+1):=by
   obtain⟨hi',e⟩:=aB.1 hs
   rw[<-e];exact aN hi'
  rw[hdr,QR]at heq
  have hcw:=w2 x (aF hs)
  have hk3: ∀y∈x.2,FL y:=λy hy=>QN (qO (by
   unfold lw at hcw
   split at hcw
   ·split at hcw
    ·cases hcw
    ·exact hcw
   ·rename_i hh;exact absurd hcw hh) y hy)
  obtain⟨pb,po,rfl,hpb,hpu,hpz,hpr⟩:=(hl.mono X.st.ge).row i x hs
  rw[lH]at hpr
  obtain⟨va,vb,hpr,hh,hbd⟩:=hpr
  obtain⟨ha,hca,rfl,-,-⟩:=hh.sl
  obtain⟨ba,bca,rfl,-,-⟩:=hbd.sl
  simp only[nH,mQ,ax,aC]at hpr hpu hpz
  obtain⟨p0,p1,p2,p3⟩:=hpr
  simp(disch:=first|omega|simp only[zz];try omega;done) only[↓reduceIte,go_sem,Ve,x2,e9,A.at,A.2.1,hlt]
  obtain⟨M,hM⟩:=kg (α:=ku->H->Prop) λσ' h3=> ∃u3 q,BX u0 h0 p.length fs.length (some ⟨pb,po,none⟩) fa lc fc σ' u3 h3/\jD S0 u' h' u3 h3/\σ' 8=vP/\σ' 9= Jx JT i/\σ' 10= .pointer (some ⟨q,0,none⟩)/\σ' 11= .bool (decide (lh x≠(0,0,0)))/\jR u3 h3 q [Jx JT (lh x).1,Jx JT (lh x).2.1,Jx JT (lh x).2.2]/\h0.size+3<=q
  have hbk:=tF hcw
  have hfw:=FV hcw
  refine vX M ?_ ?_
  ·simp(disch:=first|omega|simp only[zz];try omega;done) only[↓reduceIte,go_sem,vQ,x2,e9,A.at,A.2.1,hlt,p1,p3]
   refine⟨jC (.inr (.inr (.inr (.inr (.inr (.inr (.inr (.inr (.inl ⟨rfl,u',_,_,x,rfl,hh,hbd,hbk,hfw,hk3,λu4 h4 s4=>⟨jO,?_⟩⟩))))))))),?_⟩
   ·have sp:=jD.qZ S0 u4 h4 #[Jx JT (lh x).1,Jx JT (lh x).2.1,Jx JT (lh x).2.2] 27
    have T1:=jR.newc (u:=u4) (h:=h4) [Jx JT (lh x).1,Jx JT (lh x).2.1,Jx JT (lh x).2.2] 27
    simp(disch:=omega) only[↓reduceIte,go_sem,fV]
    rw[hM]
    exact⟨_,h4.size,X.go (s4.tZ sp) (λ_ e=>e.elim) zJ zJ zJ zJ,s4.tZ sp,by simp [jI,e8],by simp [jI,e9],zJ,zJ,T1,aT hz s4.ge.sz⟩
   ·have sp:=jD.qZ S0 u' h' #[Jx JT 0,Jx JT 0,Jx JT 0] 27
    have T1:=jR.newc (u:=u') (h:=h') [Jx JT 0,Jx JT 0,Jx JT 0] 27
    refine jC (.inr (.inr (.inr (.inr (.inr (.inr (.inr (.inr (.inl ⟨rfl,ub u' h'.size 0,_,_,x,rfl,hh.mono sp.ge,hbd.mono sp.ge,hbk,hfw,hk3,λu4 h4 s4=>⟨jO,?_⟩⟩)))))))))
    have s5:=sp.tZ s4
    have T2:=T1.sZ s4
    have t2l:=T2.1
    have sw:=T2.stepSets (l:=[Jx JT (lh x).1,Jx JT (lh x).2.1,Jx JT (lh x).2.2]) rfl
    have T3:=T2.sets (l:=[Jx JT (lh x).1,Jx JT (lh x).2.1,Jx JT (lh x).2.2]) rfl
    simp(disch:=omega) only[↓reduceIte,go_sem,fV,T2.2.1,T2.2.2.1]
    rw[hM]
    have X4:=X.go (σ':=σ) s5 (λ_ e=>e.elim) rfl rfl rfl rfl
    exact⟨_,h'.size,X4.go sw (λj e=>by have e:j=h'.size:=e;omega) zJ zJ zJ zJ,s5.own sw (λj e=>by have e:j=h'.size:=e;omega),by simp [jI,e8],by simp [jI,e9],zJ,zJ,T3,hz⟩
  intro σ3 h3 hM3
  rw[hM]at hM3
  obtain⟨u3,q,X3,s3,g8,g9,g10,g11,T,hq⟩:=hM3
  clear hM M
  have iP3:=iP.mono s3.ge
  have tl:=T.1
  by_cases hbc:lh x=(0,0,0)
  ·rw[ah hbc]at heq
   rw[aI (by simp [hbc])]at g11
   simp(disch:=omega) only[↓reduceIte,go_sem,g9,g11]
   refine⟨i+1,?_,zO⟩
   rw[hI]
   exact⟨zJ,by simp [jI,g8],hlt,heq,u3,X3.go (jD.refl S0 u3 h3) (λ_ e=>e.elim) zJ zJ zJ zJ,iP3⟩
  ·rw[af hbc]at heq
   rw[bq hbc]at g11
   have hb:=agn Z.gv h2 (by rw[heq];exact hbc)
   rw[heq]at hb
   have hb':yR p fs=(qH,(lh x).1,(lh x).2.1,(lh x).2.2):=hb
   obtain⟨H1,H2,hH1,hH2,kk,F1,R2,F2,sw⟩:=X3.out hb' hK
   have T2:=T.step sw λe=>by have e:q=h0.size+1:=e;omega
   have hR:=X3.R.2.1
   have hR2:=X3.R.2.2.1
   have y4:=X3.e4
   have y5:=X3.e5
   have rl:=X3.R.1
   have f1l:=F1.1
   have r2l:=R2.1
   have f2l:=F2.1
   have t2l:=T2.1
   rw[hH1]at T2 F1 hH2 f1l t2l
   rw[hH2]at kk R2 F2 r2l f2l
   simp(disch:=first|omega|simp only[zz];try omega;done) only[↓reduceIte,go_sem,g10,g11,y4,y5,T.at,T.2.1,qy,hR,hR2,T2.at,T2.2.1,F1.2.1,F1.2.2.1,R2.at,R2.2.1,F2.at,F2.2.1]
   exact kk
 ·obtain rfl:i=p.length:=zO
  rw[bB]at heq
  simp(disch:=first|omega|simp only[zz];try omega;done) only[↓reduceIte,go_sem,Ve,x2,e9,A.at,A.2.1]
  exact ajd Z (X.go (jD.refl S0 u' h') (λ_ e=>e.elim) zJ zJ zJ zJ) (by simp [jI,e8]) iP h2 heq hK
theorem agq(p:List jY)(fs:List kZ):wF p fs=(0,0,0)\/(wF p fs).1≠0:=by
 unfold wF
 split
 ·rename_i h;exact .inr h
 ·split
  ·exact .inr zP
  ·split
   ·exact .inr zP
   ·exact .inl rfl
theorem NR: ∀(L:List yj) (ps:List kK),(sP ps L).2=(0,0,0)\/(sP ps L).2.1≠0
 |[],_=> .inl rfl
 |(a,k)::L,ps=>by
  rw[DT]
  cases oQ ps a.1 with
  |some n=>
   simp only
   split
   ·exact NR L ps
   ·exact .inr zP
  |none=>
   simp only
   split
   ·exact .inr zP
   ·exact NR L _
def QS(vs:List Value)(h:H)(K:Value->H->Prop):Prop:= ∃(u:U) (v w:Value) (p:List jY) (fs:List kZ),vs=[.agg #[v],w]/\jS u h v p/\jS u h w fs/\Rep.wf p/\Rep.wf fs/\Kb u h p fs K
theorem Vv{vs:List Value}(hC:QS vs h K):kN Tryz.prog 9 vs h K KP:=by
 obtain⟨u,v,w,p,fs,rfl,hl,hf,hwp,hwf,hK⟩:=hC
 obtain⟨la,lc,rfl,q1,q2⟩:=hl.sl
 obtain⟨fa,fc,rfl,q3,q4⟩:=hf.sl
 have hm:=lC
 refine jJ (s:=Bq) 5846006550685405754536000328965420765699561750519 [((some (.c1 (.ldn 4) (.t 4))),(.o1 (.ldn 4) (.t 4))),((some (.c1 (.ldn 3) (.t 5))),(.o1 (.ldn 3) (.t 5)))] NS Tryz.func9 ?_ (by kernel_rfl) (by kernel_rfl)
 have s1:=jD.qZ S0 u h #[.slice la p.length lc] 24
 have A1:=jR.newc (u:=u) (h:=h) [.slice la p.length lc] 24
 have s2:=jD.qZ S0 (ub u h.size 0) (h.push (.cells #[.slice la p.length lc] 24)) #[.slice none 0 0,.slice none 0 0,.slice none 0 0,.slice none 0 0] 38
 have R1:=jR.newc (u:=ub u h.size 0) (h:=h.push (.cells #[.slice la p.length lc] 24)) [.slice none 0 0,.slice none 0 0,.slice none 0 0,.slice none 0 0] 38
 have s3:=jD.qZ S0 (ub (ub u h.size 0) (h.push (.cells #[.slice la p.length lc] 24)).size 0) ((h.push (.cells #[.slice la p.length lc] 24)).push (.cells #[.slice none 0 0,.slice none 0 0,.slice none 0 0,.slice none 0 0] 38)) #[Jx JT 0,Jx JT 0,Jx JT 0] 27
 have F1:=jR.newc (u:=ub (ub u h.size 0) (h.push (.cells #[.slice la p.length lc] 24)).size 0) (h:=(h.push (.cells #[.slice la p.length lc] 24)).push (.cells #[.slice none 0 0,.slice none 0 0,.slice none 0 0,.slice none 0 0] 38)) [Jx JT 0,Jx JT 0,Jx JT 0] 27
 have A3:=(A1.sZ s2).sZ s3
 have R3:=R1.sZ s3
 have st3:=(s1.tZ s2).tZ s3
 obtain⟨u3,hu3⟩:=kg (ub (ub (ub u h.size 0) (h.push (.cells #[.slice la p.length lc] 24)).size 0) ((h.push (.cells #[.slice la p.length lc] 24)).push (.cells #[.slice none 0 0,.slice none 0 0,.slice none 0 0,.slice none 0 0] 38)).size 0)
 obtain⟨h3,hh3⟩:=kg ((((h.push (.cells #[.slice la p.length lc] 24)).push (.cells #[.slice none 0 0,.slice none 0 0,.slice none 0 0,.slice none 0 0] 38)).push (.cells #[Jx JT 0,Jx JT 0,Jx JT 0] 27)))
 rw[<-hu3,<-hh3]at A3 R3 F1 st3
 simp only[kw]at R3 F1
 have hz3:h3.size=h.size+3:=by rw[hh3];simp only[kw]
 rw[agu,agv,agw]
 have a3l:=A3.1
 have h11:h.size+1+1=h.size+2:=rfl
 simp(disch:=first|omega|simp only[zz];try omega;done) only[↓reduceIte,go_sem,h11,rT2,rT1,Bq,sS,sF,<-hh3,A3.at,A3.2.1]
 refine jC (.inr (.inr (.inr (.inr (.inr (.inr (.inr (.inr (.inr (.inr (.inr ⟨rfl,u3,_,_,p,fs,rfl,hl.mono st3.ge,hf.mono st3.ge,hwp,hwf,λu4 h4 s4=>⟨jO,?_⟩⟩)))))))))))
 have F1:jR u3 h3 (h.size+2) [Jx JT 0,Jx JT 0,Jx JT 0]:=F1
 have sp:=jD.qZ S0 u4 h4 #[Jx JT (wF p fs).1,Jx JT (wF p fs).2.1,Jx JT (wF p fs).2.2] 27
 have T1:=jR.newc (u:=u4) (h:=h4) [Jx JT (wF p fs).1,Jx JT (wF p fs).2.1,Jx JT (wF p fs).2.2] 27
 have s45:=s4.tZ sp
 obtain⟨u5,hu5⟩:=kg (ub u4 h4.size 0)
 obtain⟨h5,hh5⟩:=kg (h4.push (.cells #[Jx JT (wF p fs).1,Jx JT (wF p fs).2.1,Jx JT (wF p fs).2.2] 27))
 have hz5:h5.size=h4.size+1:=by rw[hh5];simp only[kw]
 have hz4:=s4.ge.sz
 rw[<-hu5,<-hh5]at sp s45
 have T1:jR u5 h5 h4.size [Jx JT (wF p fs).1,Jx JT (wF p fs).2.1,Jx JT (wF p fs).2.2]:=by rw[hu5,hh5];exact T1
 have X5: ∀σ:ku,σ 1= .slice fa fs.length fc->σ 2= .pointer (some ⟨h.size,0,none⟩)->σ 4= .pointer (some ⟨h.size+1,0,none⟩)->σ 5= .pointer (some ⟨h.size+2,0,none⟩)->BX u h p.length fs.length la fa lc fc σ u5 h5:=λσ g1 g2 g4 g5=>⟨st3.tZ s45,g1,g2,g4,g5,A3.sZ s45,R3.sZ s45,F1.sZ s45,zO⟩
 have t1l:=T1.1
 have A5:=A3.sZ s45
 have a5l:=A5.1
 -- a fault that lies in the block at h4.size
 by_cases hg:wF p fs=(0,0,0)
 ·have hg1:(wF p fs).1=0:=by rw[hg]
  simp(disch:=first|omega|simp only[zz];try omega;done) only[↓reduceIte,go_sem,fV,<-hh5,T1.at,T1.2.1,ai hg1]
  rw[agx,agy,agz]
  obtain⟨g1,g2,g3⟩:=DW hg
  obtain⟨w1,w2⟩:=uZ g1
  simp(disch:=first|omega|simp only[zz];try omega;done) only[↓reduceIte,go_sem,rT5,rT4,rT3,rT2,rT1,Bq,sS,sF,A5.at,A5.2.1]
  refine jC (.inr (.inr (.inr (.inr (.inr (.inr (.inr (.inr (.inr (.inr (.inl ⟨rfl,u5,_,_,p,fs,rfl,hl.mono (st3.tZ s45).ge,hf.mono (st3.tZ s45).ge,w1,λc hc=>(ve (w2 c hc)).1,g2,λu6 h6 w6 s6 hw6=>⟨jO,?_⟩⟩)))))))))))
  have hsl:(kI p fs).length<=1000000:=by
   have h1:=yQ p λc hc=>(ve (w2 c hc)).1
   unfold kI
   have h2:(fs.map λa=>(a,(1:Int))).length=fs.length:=aU _
   rw[ay,h2]
   have h1:(List.map (λa=>(a,(0:Int))) (List.flatMap kJ p)).length<=17*p.length:=h1
   omega
  simp only[↓reduceIte,go_sem,jN]
  refine jC (.inr (.inr (.inr (.inr (.inr (.inr (.inr (.inr (.inr (.inl ⟨rfl,u6,_,kI p fs,rfl,hw6,hsl,λu7 h7 w7 s7 hw7=>⟨jO,?_⟩⟩))))))))))
  have s67:=s6.tZ s7
  have T7:=T1.sZ s67
  have t7l:=T7.1
  have sw:=T7.stepSets (l:=[Jx JT (sP [] (kI p fs)).2.1,Jx JT (sP [] (kI p fs)).2.2.1,Jx JT (sP [] (kI p fs)).2.2.2]) rfl
  have T8:=T7.sets (l:=[Jx JT (sP [] (kI p fs)).2.1,Jx JT (sP [] (kI p fs)).2.2.1,Jx JT (sP [] (kI p fs)).2.2.2]) rfl
  have X8: ∀σ:ku,σ 1= .slice fa fs.length fc->σ 2= .pointer (some ⟨h.size,0,none⟩)->σ 4= .pointer (some ⟨h.size+1,0,none⟩)->σ 5= .pointer (some ⟨h.size+2,0,none⟩)->BX u h p.length fs.length la fa lc fc σ u7 (jW h7 h4.size 0 [Jx JT (sP [] (kI p fs)).2.1,Jx JT (sP [] (kI p fs)).2.2.1,Jx JT (sP [] (kI p fs)).2.2.2]):=λσ g1 g2 g4 g5=>((X5 σ g1 g2 g4 g5).go (σ':=σ) s67 (λ_ e=>e.elim) rfl rfl rfl rfl).go (σ':=σ) sw (λj e=>by have e:j=h4.size:=e;omega) rfl rfl rfl rfl
  have iP:=hw7.mono sw.ge
  obtain⟨h8,hh8⟩:=kg (jW h7 h4.size 0 [Jx JT (sP [] (kI p fs)).2.1,Jx JT (sP [] (kI p fs)).2.2.1,Jx JT (sP [] (kI p fs)).2.2.2])
  rw[<-hh8]at sw T8 X8 iP
  have t8l:=T8.1
  by_cases hr:(sP [] (kI p fs)).2=(0,0,0)
  ·have hr1:(sP [] (kI p fs)).2.1=0:=by rw[hr]
   simp(disch:=first|omega|simp only[zz];try omega;done) only[↓reduceIte,go_sem,fV,T7.2.1,T7.2.2.1,<-hh8,T8.at,T8.2.1,ai hr1]
   exact aje ⟨hl,hf,hwp,hwf,hg⟩ (X8 _ zJ zJ zJ zJ) zJ iP hr hK
  ·have hr1: ¬(sP [] (kI p fs)).2.1=0:=(NR (kI p fs) []).resolve_left hr
   have hb':yR p fs=(qH,(sP [] (kI p fs)).2.1,(sP [] (kI p fs)).2.2.1,(sP [] (kI p fs)).2.2.2):=agm hg hr
   have X9:=X8 (jI (jI (jI (jI BM 1 (.slice fa fs.length fc)) 2 (.pointer (some ⟨h.size,0,none⟩))) 4 (.pointer (some ⟨h.size+1,0,none⟩))) 5 (.pointer (some ⟨h.size+2,0,none⟩))) zJ zJ zJ zJ
   obtain⟨H1,H2,hH1,hH2,kk,G1,R2,G2,sv⟩:=X9.out hb' hK
   have T9:=T8.step sv λe=>by have e:h4.size=h.size+1:=e;omega
   have hR:=X9.R.2.1
   have hR2:=X9.R.2.2.1
   have rl:=X9.R.1
   have g1l:=G1.1
   have r2l:=R2.1
   have g2l:=G2.1
   have t9l:=T9.1
   rw[hH1]at T9 G1 hH2 g1l t9l
   rw[hH2]at kk R2 G2 r2l g2l
   simp(disch:=first|omega|simp only[zz];try omega;done) only[↓reduceIte,go_sem,fV,T7.2.1,T7.2.2.1,<-hh8,T8.at,T8.2.1,ae hr1,qy,hR,hR2,T9.at,T9.2.1,G1.2.1,G1.2.2.1,R2.at,R2.2.1,G2.at,G2.2.1]
   exact kk
 ·have hg1: ¬(wF p fs).1=0:=(agq p fs).resolve_left hg
  have hb':yR p fs=(qH,(wF p fs).1,(wF p fs).2.1,(wF p fs).2.2):=agl hg
  have X9:=X5 (jI (jI (jI (jI BM 1 (.slice fa fs.length fc)) 2 (.pointer (some ⟨h.size,0,none⟩))) 4 (.pointer (some ⟨h.size+1,0,none⟩))) 5 (.pointer (some ⟨h.size+2,0,none⟩))) zJ zJ zJ zJ
  obtain⟨H1,H2,hH1,hH2,kk,G1,R2,G2,sv⟩:=X9.out hb' hK
  have T9:=T1.step sv λe=>by have e:h4.size=h.size+1:=e;omega
  have hR:=X9.R.2.1
  have hR2:=X9.R.2.2.1
  have rl:=X9.R.1
  have g1l:=G1.1
  have r2l:=R2.1
  have g2l:=G2.1
  have t9l:=T9.1
  rw[hH1]at T9 G1 hH2 g1l t9l
  rw[hH2]at kk R2 G2 r2l g2l
  simp(disch:=first|omega|simp only[zz];try omega;done) only[↓reduceIte,go_sem,fV,<-hh5,T1.at,T1.2.1,ae hg1,qy,hR,hR2,T9.at,T9.2.1,G1.2.1,G1.2.2.1,R2.at,R2.2.1,G2.at,G2.2.1]
  exact kk
end Go.Proofs.Z
