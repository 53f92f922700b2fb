/- A part of the proof. -/
import Derived.Test.YtgjkkjeakagomaaGreatDoorRefS
import Derived.Test.YtgjkkjeakagomaaGreatDoorTok
import Derived.Test.YtgjkkjeakagomaaGreatDoorEnd
set_option linter.all false
set_option maxRecDepth 100000
set_option maxHeartbeats 4000000
open Go.Value renaming int→Jx
open Go.IntKind renaming i64→JT
namespace Go.Proofs.Z
open Go Go.Ev Edict
variable {vs:List Value} {h:H} {K:Value->H->Prop} {KP:List PanicEntry->H->Prop}
/-! ### edictref02 -/
def Gi(s:List UInt8)(k:Nat):List UInt8:=if k+2<=s.length then(s.drop k).take 2 else []
def Cn(vs:List Value)(h:H)(K:Value->H->Prop):Prop:= ∃c:Nat,vs=[.int .u8 c]/\K (.bool (IB c)) h
theorem XU(c:Nat):(decide ((c:Int)=32) || decide ((c:Int)=9) || decide ((c:Int)=10) || decide ((c:Int)=13))=IB c:=by
 unfold IB;apply bS.2;simp;omega
theorem Qt(hC:Cn vs h K):kN Tryz.prog 115 vs h K KP:=by
 obtain⟨c,rfl,hK⟩:=hC
 refine jJ 5 [(none,(.t 2))] (G:=(λ_ _ _ _ _=>False)) (λ_ _ _ _ _ h=>h.elim) Tryz.func115 ?_
 simp only[↓reduceIte,go_sem,XU]
 exact hK
def Bl(vs:List Value)(h:H)(K:Value->H->Prop):Prop:= ∃(s:List UInt8) (n:Int),vs=[str s,Jx JT n]/\0<=n/\n<=s.length/\s.length<=65536/\K (str (Gi s n.toNat)) h
theorem IJ(hC:Bl vs h K):kN Tryz.prog 114 vs h K KP:=by
 obtain⟨s,n,rfl,h0,h1,h2,hK⟩:=hC
 obtain⟨k,rfl⟩:=gJ h0
 refine jJ 531 [(none,(.t 4))] (G:=(λ_ _ _ _ _=>False)) (λ_ _ _ _ _ h=>h.elim) Tryz.func114 ?_
 simp(disch:=omega) only[↓reduceIte,go_sem]
 simp only[dH,Gi]at hK
 refine⟨λhlt=> ?_,λhlt=>⟨zO,zO,zO,?_⟩⟩
 ·rw[af zO]at hK;exact hK
 ·rw[ah zO]at hK;rw[List.drop_take,show k+2 - k=2 by omega];exact hK
theorem qD(s:List UInt8)(k:Nat):(s.getD k 0).toNat=kY s k:=rfl
theorem GK(s:List UInt8)(k:Nat)(a b:UInt8):decide (Gi s k=[a,b])=pr s k a.toNat b.toNat:=by
 unfold Gi pr kY
 apply bS.2
 simp only[aL,aM,beq_iff_eq,eH]
 by_cases h:k+2<=s.length
 ·rw[ah h]
  have h1:s.drop k=s.getD k 0::s.getD (k+1) 0::s.drop (k+2):=by
   rw[aN zO,aN zO]
   simp [aG,bf (show k<s.length by omega),bf (show k+1<s.length by omega)]
  rw[h1]
  simp only[dY,gZ,ax,aC]
  exact⟨fun⟨x,y⟩=>⟨⟨zO,x⟩,y⟩,fun⟨⟨_,x⟩,y⟩=>⟨x,y⟩⟩
 ·rw[af h]
  simp;omega
def Qu(s:List UInt8)(k:Nat):Int:=if kY s k=37 then(qW s k:Nat)else match blk s 1 (k+2)with|some j=>(j:Nat)|none=> -1
def Aa(vs:List Value)(h:H)(K:Value->H->Prop):Prop:=
 ∃(s:List UInt8) (n:Int),vs=[str s,Jx JT n]/\0<=n/\n<s.length/\s.length<=65536/\(kY s n.toNat≠37->pr s n.toNat 47 42=true)/\K (Jx JT (Qu s n.toNat)) h
def FE:lq:=λf vs h K _=>f=114/\Bl vs h K
theorem IK:lQ Tryz.prog FE:=by
 rintro f vs h K KP ⟨rfl,hC⟩;exact IJ hC
def UQ(s:List UInt8)(d k:Nat):Option Nat:=if d=0 then(if pr s k 47 42 then blk s 1 (k+2)else none)else blk s d k
theorem ND(hC:Aa vs h K):kN Tryz.prog 116 vs h K KP:=by
 obtain⟨s,n,rfl,h0,h1,h2,hp,hK⟩:=hC
 obtain⟨k,rfl⟩:=gJ h0
 simp only[dH]at hp hK
 refine jJ 70648052319347 [(none,(.t 4))] IK Tryz.func116 ?_
 simp only[↓reduceIte,go_sem,qD]
 refine⟨zO,zO,λhc=> ?_,λhc=> ?_⟩
 ·-- a line comment
  have hc':kY s k=37:=zO
  unfold Qu at hK;rw[ah hc']at hK
  refine jE (fun(j:Nat) σ h'=>σ 0=str s/\σ 1= Jx JT j/\h'=h/\j<=s.length/\qW s j=qW s k) (λj=>s.length - j) k ⟨zJ,zJ,rfl,zO,rfl⟩ ?_
  rintro j σ h' ⟨e0,e1,rfl,hj,he⟩
  simp(disch:=omega) only[↓reduceIte,go_sem,qD,e0,e1]
  refine⟨λhlt=>zO,fun⟨hlt,hne⟩=>⟨j+1,zP,zO,?_,zO⟩,λhx=> ?_⟩
  ·exact(yM zO zO).symm.trans he
  ·rw[<-he,Cm zO]at hK;exact hK
 ·-- a block comment
  have hc':kY s k≠37:=zO
  have hp:=hp hc'
  unfold Qu at hK;rw[af hc']at hK
  refine jE (fun(x:Nat×Nat) σ h'=>σ 0=str s/\σ 1= Jx JT x.2/\σ 5= Jx JT x.1/\h'=h/\x.2<=s.length/\(x.1=0->pr s x.2 47 42=true)/\x.1<=x.2/\UQ s x.1 x.2=blk s 1 (k+2)) (λx=>s.length - x.2) (0,k)
   ⟨zJ,zJ,zJ,rfl,by simp only;omega,λ_=>hp,zP,by simp [UQ,hp]⟩ ?_
  rintro ⟨d,j⟩ σ h' ⟨e0,e1,e5,rfl,hj,hd,hdj,he⟩
  simp only at e1 e5 hj hd hdj he
  simp(disch:=omega) only[↓reduceIte,go_sem,nE,e0,e1,e5,FE,Bl]
  have t1:Gi s j=[47,42]↔pr s j 47 42=true:=by rw[<-decide_eq_true_iff (p:=Gi s j=[47,42]),GK];rfl
  have t2:Gi s j=[42,47]↔pr s j 42 47=true:=by rw[<-decide_eq_true_iff (p:=Gi s j=[42,47]),GK];rfl
  simp only[t1,t2]
  refine⟨λhlt=>⟨zO,zO,zO,λhp1=>⟨λ_=>zO,λ_=>⟨(d+1,j+2),zP,zP,?_,zP,by simp only;omega,?_,?_⟩⟩,
   λhp1=>⟨λhp2=>⟨λhz=> ?_,λhz=>⟨(d - 1,j+2),zP,?_,?_,?_,by simp only;omega,?_,?_⟩⟩,λhp2=>⟨λhz=> ?_,λhz=>⟨(d,j+1),zP,zP,?_,?_,by simp only;omega,?_,?_⟩⟩⟩⟩,λhge=> ?_⟩
  ·have:=wX hp1;simp only;omega
  ·rw[<-he];unfold UQ
   by_cases hd0:d=0
   ·subst hd0;simp [hp1]
   ·simp only[Nat.add_eq_zero_iff,Nat.succ_ne_self,and_false,aW,hd0];exact(acF hp1).symm
  ·simp only;omega
  ·-- closed
   have hp1':pr s j 47 42=false:=by simpa using hp1
   have hd1:d=1:=zO
   subst hd1
   unfold UQ at he;rw[af zO,Dp hp1' hp2,ah zO]at he
   rw[<-he]at hK;exact hK
  ·have hd0:d≠0:=λh=>hp1 (hd h)
   simp only;omega
  ·have:=wX hp2;simp only;omega
  ·intro hf
   simp only at hf
   have hd0:d≠0:=λh=>hp1 (hd h)
   omega
  ·have hp1':pr s j 47 42=false:=by simpa using hp1
   have hd0:d≠0:=λh=>hp1 (hd h)
   rw[<-he];unfold UQ
   rw[af hd0,af zO,Dp hp1' hp2,af zO]
  ·simp only;omega
  ·exact absurd (hd zO) hp1
  ·simp only;omega
  ·intro hf;exact absurd (hd hf) hp1
  ·have hp1':pr s j 47 42=false:=by simpa using hp1
   have hp2':pr s j 42 47=false:=by simpa using hp2
   have hd0:d≠0:=λh=>hp1 (hd h)
   rw[<-he];unfold UQ
   rw[af hd0,af hd0];exact(acG zO hp1' hp2').symm
  ·simp only;omega
  ·have hd0:d≠0:=λh=>by have:=wX (hd h);omega
   unfold UQ at he;rw[af hd0,XT zO]at he
   rw[<-he]at hK;exact hK
def okN(b:Bool):Int:=if b then 0 else 16
def XV(vs:List Value)(h:H)(K:Value->H->Prop):Prop:=
 ∃(s:List UInt8) (n:Int),vs=[str s,Jx JT n]/\0<=n/\n<=s.length/\s.length<=65536/\K (.tuple #[Jx JT (oL s n.toNat).1,Jx JT (okN (oL s n.toNat).2)]) h
def XW:lq:=λf vs h K _=>(f=114/\Bl vs h K)\/(f=115/\Cn vs h K)\/(f=116/\Aa vs h K)
theorem UR:lQ Tryz.prog XW:=lY IJ (lY Qt (pX ND))
theorem akD(s:List UInt8)(j:Nat)(a b:UInt8):(Gi s j=[a,b])=(pr s j a.toNat b.toNat=true):=by
 rw[<-decide_eq_true_iff (p:=Gi s j=[a,b]),GK]
theorem acH(hC:XV vs h K):kN Tryz.prog 94 vs h K KP:=by
 obtain⟨s,n,rfl,h0,h1,h2,hK⟩:=hC
 obtain⟨k,rfl⟩:=gJ h0
 simp only[dH]at hK
 refine jJ 17448569075 [(none,(.t 4)),(none,(.t 5))] UR Tryz.func94 ?_
 simp only[go_sem]
 refine jE (fun(j:Nat) σ h'=>σ 0=str s/\σ 1= Jx JT j/\h'=h/\j<=s.length/\oL s j=oL s k) (λj=>s.length - j) k ⟨zJ,zJ,rfl,zO,rfl⟩ ?_
 rintro j σ h' ⟨e0,e1,rfl,hj,he⟩
 simp(disch:=omega) only[↓reduceIte,go_sem,nE,qD,e0,e1,XW,Bl,Cn,Aa]
 simp only[akD,show(47:UInt8).toNat=47 from rfl,show(42:UInt8).toNat=42 from rfl]
 refine⟨λhlt=>⟨zO,zO,zO,zO,zO,λhb=>⟨j+1,zP,zO,?_,zO⟩,λhb=>⟨zO,zO,λhn=> ?_,λhn=>⟨zO,zO,zO,λh37=> ?_,λhneg=> ?_,λhpos=> ?_⟩⟩⟩,λhge=> ?_⟩
 ·exact(UO zO hb).symm.trans he
 ·rw[II hb zO (by simpa using hn.2)]at he;rw[<-he]at hK;exact hK
 ·by_cases q:pr s j 47 42=true
  ·exact q
  ·exact(hn ⟨zO,q⟩).elim
 ·have h37:kY s j≠37:=λh37=>by unfold Qu at hneg;rw[ah h37]at hneg;omega
  have hp:pr s j 47 42=true:=by
   by_cases q:pr s j 47 42=true
   ·exact q
   ·exact(hn ⟨zO,q⟩).elim
  cases hbk:blk s 1 (j+2)with
  |none=>rw[IG hp hbk]at he;rw[<-he]at hK;exact hK
  |some x=>unfold Qu at hneg;rw[af h37,hbk]at hneg;simp only at hneg;omega
 ·by_cases h37:kY s j=37
  ·have e1:qW s j=qW s (j+1):=yM zO zO
   have g1:=uA s (j+1)
   have g2:=Dq s (j+1) zO
   exact⟨qW s j,by unfold Qu;rw[ah h37],zO,by rw[e1];exact(IC zO h37).symm.trans he,zO⟩
  ·have hp:pr s j 47 42=true:=by
    by_cases q:pr s j 47 42=true
    ·exact q
    ·exact(hn ⟨zO,q⟩).elim
   cases hbk:blk s 1 (j+2)with
   |none=>unfold Qu at hpos;rw[af h37,hbk]at hpos;simp only at hpos;omega
   |some x=>
    have:=xx s _ _ _ hbk
    exact⟨x,by unfold Qu;rw[af h37,hbk],zO,(IE hp hbk).symm.trans he,zO⟩
 ·rw[NC zO]at he;rw[<-he]at hK;exact hK
def wY(vs:List Value)(h:H)(K:Value->H->Prop):Prop:= ∃c:Nat,vs=[.int .u8 c]/\K (.bool (IB c)) h
theorem NE(hC:wY vs h K):kN Tryz.prog 157 vs h K KP:=by
 obtain⟨c,rfl,hK⟩:=hC
 refine jJ 5 [(none,(.t 2))] (G:=(λ_ _ _ _ _=>False)) (λ_ _ _ _ _ h=>h.elim) Tryz.func157 ?_
 simp only[↓reduceIte,go_sem,XU]
 exact hK
def pU(vs:List Value)(h:H)(K:Value->H->Prop):Prop:= ∃s t:List UInt8,vs=[str s,str t]/\s.length<=9223372036854775807/\t.length<=9223372036854775807/\K (.bool (t.isPrefixOf s)) h
theorem Gj(s t:List UInt8):(decide (t.length<=s.length) && decide (s.take t.length=t))=t.isPrefixOf s:=by
 apply bS.2
 rw[eZ,iO]
 simp only[aM,aL]
 exact⟨λh=>h.2.symm,λh=>⟨by rw[h];simp;omega,h.symm⟩⟩
theorem IL(hC:pU vs h K):kN Tryz.prog 163 vs h K KP:=by
 obtain⟨s,t,rfl,h1,h2,hK⟩:=hC
 refine jJ 19 [(none,(.t 4))] (G:=(λ_ _ _ _ _=>False)) (λ_ _ _ _ _ h=>h.elim) Tryz.func163 ?_
 simp only[↓reduceIte,go_sem]
 refine⟨λh=>⟨zO,zO⟩,?_⟩
 rw[<-Gj,<-decide_eq_decide.2 (Int.ofNat_le (m:=t.length) (n:=s.length))]at hK
 exact hK
def BS:lq:=λf vs h K _=>f=163/\pU vs h K
theorem EA:lQ Tryz.prog BS:=by
 rintro f vs h K KP ⟨rfl,hC⟩;exact IL hC
theorem Ab(hC:pU vs h K):kN Tryz.prog 143 vs h K KP:=by
 obtain⟨s,t,rfl,h1,h2,hK⟩:=hC
 refine jJ 19 [(none,(.t 4))] EA Tryz.func143 ?_
 simp only[↓reduceIte,go_sem,nE,BS,pU]
 exact⟨h1,h2,hK⟩
theorem UT(s:List UInt8)(k:Nat)(a b:UInt8):List.isPrefixOf [a,b] (s.drop k)=pr s k a.toNat b.toNat:=by
 rw[<-GK]
 apply bS.2
 rw[eZ,iO,aL]
 unfold Gi
 by_cases h:k+2<=s.length
 ·rw[ah h];exact eq_comm
 ·rw[af h]
  refine⟨λe=> ?_,λe=>by cases e⟩
  have:=bA List.length e
  simp at this
  omega
def Rd(h:H)(B:Nat)(s:List UInt8)(k:Nat):Prop:=lS h B=2/\tJ h B=(0,0)/\hv h B 0=str s/\hv h B 1= Jx JT k/\k<=s.length/\s.length<=65536
def XX(vs:List Value)(h:H)(K:Value->H->Prop):Prop:=
 ∃(B:Nat) (s:List UInt8) (k:Nat),vs=[.pointer (some ⟨B,0,none⟩)]/\Rd h B s k/\
  ∀j:Nat,j<=s.length->((oL s k).2=true->j=(oL s k).1)->K (.tuple #[Jx JT (oL s k).1,.bool (oL s k).2]) (ky h B 1 (Jx JT j))
def NF:lq:=λf vs h K _=>(f=143/\pU vs h K)\/(f=157/\wY vs h K)
theorem UU:lQ Tryz.prog NF:=lY Ab (pX NE)
theorem acI(hC:XX vs h K):kN Tryz.prog 135 vs h K KP:=by
 obtain⟨B,s,k,rfl,⟨hz,hf,hs,hk,hkl,hsl⟩,hK⟩:=hC
 refine jJ 22835973972341524725499702261030176676466753597 [(none,(.t 2)),(none,(.t 3))] UU Tryz.func135 ?_ (by kernel_rfl) (by apply c0 rfl;repeat' first|apply cS|apply cK|apply cL|apply cX|(apply cC zD)|with_reducible exact cV 5 (.sts [(zk .nilck (.t 0)),(zg 1 (.t 0)),(zh (zf 1 (.t 0))),(zk .nilck (.t 0)),(zg 0 (.t 0)),(zh (zf 0 (.t 0))),(zk .lens (zl (zf 0 (.t 0)))),(zq .lss (zl (zf 1 (.t 0))) (.o1 .lens (zl (zf 0 (.t 0))))),(.chk [((zb .lss (zl (zf 1 (.t 0))) (.o1 .lens (zl (zf 0 (.t 0))))),true)] (.c1 .nilck (.t 0))),(.chk [((zb .lss (zl (zf 1 (.t 0))) (.o1 .lens (zl (zf 0 (.t 0))))),true)] (.c1 (.fld 0) (.t 0))),(.chk [((zb .lss (zl (zf 1 (.t 0))) (.o1 .lens (zl (zf 0 (.t 0))))),true)] (.c1 .ld1 (zf 0 (.t 0)))),(.chk [((zb .lss (zl (zf 1 (.t 0))) (.o1 .lens (zl (zf 0 (.t 0))))),true)] (.c1 .nilck (.t 0))),(.chk [((zb .lss (zl (zf 1 (.t 0))) (.o1 .lens (zl (zf 0 (.t 0))))),true)] (.c1 (.fld 1) (.t 0))),(.chk [((zb .lss (zl (zf 1 (.t 0))) (.o1 .lens (zl (zf 0 (.t 0))))),true)] (.c1 .ld1 (zf 1 (.t 0)))),(.chk [((zb .lss (zl (zf 1 (.t 0))) (.o1 .lens (zl (zf 0 (.t 0))))),true)] (.c2 .idxS (zl (zf 0 (.t 0))) (zl (zf 1 (.t 0))))),(.chk [((zb .lss (zl (zf 1 (.t 0))) (.o1 .lens (zl (zf 0 (.t 0))))),true)] (.c2 (.bin .neq) (.o2 .idxS (zl (zf 0 (.t 0))) (zl (zf 1 (.t 0)))) (.c (.int .u8 10)))),(.chk [] (.c3 .pick (zb .lss (zl (zf 1 (.t 0))) (.o1 .lens (zl (zf 0 (.t 0))))) (zb .neq (.o2 .idxS (zl (zf 0 (.t 0))) (zl (zf 1 (.t 0)))) (.c (.int .u8 10))) (.c (.bool false)))),(.set 66 (.o3 .pick (zb .lss (zl (zf 1 (.t 0))) (.o1 .lens (zl (zf 0 (.t 0))))) (zb .neq (.o2 .idxS (zl (zf 0 (.t 0))) (zl (zf 1 (.t 0)))) (.c (.int .u8 10))) (.c (.bool false))))]) (by kernel_rfl)|(conv=>lhs;cbv;try simp only[Kw]))
 simp only[go_sem]
 refine jE (fun(j:Nat) σ h'=>σ 0= .pointer (some ⟨B,0,none⟩)/\h'=ky h B 1 (Jx JT j)/\j<=s.length/\oL s j=oL s k) (λj=>s.length - j) k ⟨zJ,by rw[<-hk,Zg zO],zO,rfl⟩ ?_
 rintro j σ h' ⟨e0,rfl,hj,he⟩
 simp(disch:=omega) only[↓reduceIte,go_sem,nE,qD,e0,hs,hz,hf,PW,NF,pU,wY,UT]
 try simp only[show(47:UInt8).toNat=47 from rfl,show(42:UInt8).toNat=42 from rfl]
 refine⟨λhlt=>⟨zO,zO,λhb=>⟨j+1,zP,zO,(UO zO hb).symm.trans he,zO⟩,λhb=>⟨zO,zO,λh37=> ?_,λh37=>⟨zO,zO,by simp;omega,λhp=> ?_,λhp=> ?_⟩⟩⟩,λhge=> ?_⟩
 ·have h37':kY s j=37:=zO
  have g1:=uA s (j+1)
  have g2:=Dq s (j+1) zO
  have e1:qW s j=qW s (j+1):=yM zO zO
  refine jE (fun(i:Nat) σ h'=>σ 0= .pointer (some ⟨B,0,none⟩)/\h'=ky h B 1 (Jx JT i)/\j<=i/\i<=s.length/\qW s i=qW s j) (λi=>s.length - i) j ⟨by simp [jI,e0],rfl,zO,hj,rfl⟩ ?_
  rintro i σ h' ⟨e0,rfl,hji,hi,hli⟩
  simp(disch:=omega) only[↓reduceIte,go_sem,qD,e0,hs,hz,hf,PW]
  refine⟨λhlt=>zO,fun⟨hlt,hne⟩=>⟨i+1,zP,zO,zO,(yM zO zO).symm.trans hli,zO⟩,λhx=>⟨i,rfl,hi,?_,?_⟩⟩
  ·rw[Cm zO]at hli
   rw[hli,e1];exact(IC zO h37').symm.trans he
  ·rw[Cm zO]at hli
   omega
 ·have hpl:=wX hp
  refine jE (fun(x:Nat×Nat) σ h'=>σ 0= .pointer (some ⟨B,0,none⟩)/\σ 4= Jx JT j/\σ 5= Jx JT x.1/\h'=ky h B 1 (Jx JT x.2)/\j<x.2/\x.2<=s.length/\1<=x.1/\x.1<=x.2/\blk s x.1 x.2=blk s 1 (j+2)) (λx=>s.length - x.2) (1,j+2)
   ⟨by simp [jI,e0],zJ,zJ,zP,by simp only;omega,by simp only;omega,zP,zP,rfl⟩ ?_
  rintro ⟨d,i⟩ σ h' ⟨e0,e4,e5,rfl,hji,hi,hd,hdi,hbe⟩
  simp only at e5 hji hi hd hdi hbe
  simp(disch:=omega) only[↓reduceIte,go_sem,nE,e0,e4,e5,hs,hz,hf,PW,NF,pU,wY,UT]
  try simp only[show(47:UInt8).toNat=47 from rfl,show(42:UInt8).toNat=42 from rfl]
  refine⟨λhlt=>⟨zO,zO,by simp;omega,λh1=>⟨(d+1,i+2),zP,zP,by simp only;omega,?_,zP,by simp only;omega,(acF h1).symm.trans hbe,?_⟩,
   λh1=>⟨zO,zO,by simp;omega,λh2=>⟨λhz=>⟨i+2,zP,?_,?_,?_⟩,λhz=>⟨(d - 1,i+2),?_,zP,by simp only;omega,?_,?_,by simp only;omega,?_,?_⟩⟩,λh2=>⟨(d,i+1),rfl,zP,by simp only;omega,by simp only;omega,hd,by simp only;omega,(acG zO h1 h2).symm.trans hbe,by simp only;omega⟩⟩⟩,λhge=> ?_⟩
  ·have:=wX h1;simp only;omega
  ·have:=wX h1;simp only;omega
  ·have:=wX h2;omega
  ·rw[Dp h1 h2,ah zO]at hbe
   exact(IE hp hbe.symm).symm.trans he
  ·have:=wX h2;omega
  ·simp only;omega
  ·have:=wX h2;simp only;omega
  ·simp only;omega
  ·rw[Dp h1 h2,af zO]at hbe;exact hbe
  ·have:=wX h2;simp only;omega
  ·rw[XT zO]at hbe
   rw[<-he,IG hp hbe.symm]at hK
   exact hK i hi (λhx=>by cases hx)
 ·have:=II hb zO hp
  rw[<-he,this]at hK
  exact hK j hj (λ_=>rfl)
 ·have:=NC (s:=s) (k:=j) zO
  rw[<-he,this]at hK
  exact hK j hj (λ_=>rfl)
end Go.Proofs.Z
