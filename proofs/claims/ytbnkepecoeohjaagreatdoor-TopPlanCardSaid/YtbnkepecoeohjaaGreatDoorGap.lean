/- A part of the proof. -/
import Derived.Test.YtbnkepecoeohjaaGreatDoorTq6
import Derived.Test.YtbnkepecoeohjaaGreatDoorTok
import Derived.Test.YtbnkepecoeohjaaGreatDoorEnd
set_option linter.all false
set_option maxRecDepth 100000
set_option maxHeartbeats 4000000
namespace Go.Proofs.Z
open Go Go.Ev Edict
variable {vs:List Value} {h:H} {K:Value->H->Prop} {KP:List PanicEntry->H->Prop}
/-! ### edictref02 -/
def afT(s:List UInt8)(k:Nat):List UInt8:=if k+2<=s.length then(s.drop k).take 2 else []
theorem ady(c:Nat):(decide ((c:Int)=32) || decide ((c:Int)=9) || decide ((c:Int)=10) || decide ((c:Int)=13))=Ch c:=by
 unfold Ch;apply dm.2;simp;omega
theorem mE(s:List UInt8)(k:Nat):(s.getD k 0).toNat=kS s k:=rfl
theorem adz(s:List UInt8)(k:Nat)(a b:UInt8):decide (afT s k=[a,b])=pr s k a.toNat b.toNat:=by
 unfold afT pr kS
 apply dm.2
 simp only[bf,bA,beq_iff_eq,gT]
 by_cases h:k+2<=s.length
 ·rw[ay h]
  have h1:s.drop k=s.getD k 0::s.getD (k+1) 0::s.drop (k+2):=by
   rw[bK (by omega),bK (by omega)]
   simp [aO,aL (show k<s.length by omega),aL (show k+1<s.length by omega)]
  rw[h1]
  simp only[gN,jR,aG,aP]
  exact⟨fun⟨x,y⟩=>⟨⟨by omega,x⟩,y⟩,fun⟨⟨_,x⟩,y⟩=>⟨x,y⟩⟩
 ·rw[ah h]
  simp;omega
def vS(vs:List Value)(h:H)(K:Value->H->Prop):Prop:= ∃c:Nat,vs=[.int .u8 c]/\K (.bool (Ch c)) h
theorem MH(hC:vS vs h K):ma Tryz.prog 135 vs h K KP:=by
 obtain⟨c,rfl,hK⟩:=hC
 refine kP 5 [(none,(.t 2))] (G:=(λ_ _ _ _ _=>False)) (λ_ _ _ _ _ h=>h.elim) Tryz.func135 (by kernel_rfl) (by conv=>lhs;cbv;try simp only[mF]) ?_
 simp(disch:=first|omega|simp only[zz];try omega;done) only[↓reduceIte,go_sem,ady]
 exact hK
def pU(vs:List Value)(h:H)(K:Value->H->Prop):Prop:= ∃s t:List UInt8,vs=[str s,str t]/\s.length<=9223372036854775807/\t.length<=9223372036854775807/\K (.bool (t.isPrefixOf s)) h
theorem EU(s t:List UInt8):(decide (t.length<=s.length) && decide (s.take t.length=t))=t.isPrefixOf s:=by
 apply dm.2
 rw[fw,jK]
 simp only[bA,bf]
 exact⟨λh=>h.2.symm,λh=>⟨by rw[h];simp;omega,h.symm⟩⟩
theorem GV(hC:pU vs h K):ma Tryz.prog 141 vs h K KP:=by
 obtain⟨s,t,rfl,h1,h2,hK⟩:=hC
 refine kP 19 [(none,(.t 4))] (G:=(λ_ _ _ _ _=>False)) (λ_ _ _ _ _ h=>h.elim) Tryz.func141 (by kernel_rfl) (by conv=>lhs;cbv;try simp only[mF]) ?_
 simp(disch:=first|omega|simp only[zz];try omega;done) only[↓reduceIte,go_sem]
 refine⟨λh=>⟨by omega,by omega⟩,?_⟩
 rw[<-EU,<-decide_eq_decide.2 (Int.ofNat_le (m:=t.length) (n:=s.length))]at hK
 exact hK
def Av:mG:=λf vs h K _=>f=141/\pU vs h K
theorem Dp:nz Tryz.prog Av:=by
 rintro f vs h K KP ⟨rfl,hC⟩;exact GV hC
theorem yR(hC:pU vs h K):ma Tryz.prog 132 vs h K KP:=by
 obtain⟨s,t,rfl,h1,h2,hK⟩:=hC
 refine kP 19 [(none,(.t 4))] Dp Tryz.func132 (by kernel_rfl) (by conv=>lhs;cbv;try simp only[mF]) ?_
 simp(disch:=first|omega|simp only[zz];try omega;done) only[↓reduceIte,go_sem,wo,Av,pU]
 exact⟨h1,h2,hK⟩
theorem TF(s:List UInt8)(k:Nat)(a b:UInt8):List.isPrefixOf [a,b] (s.drop k)=pr s k a.toNat b.toNat:=by
 rw[<-adz]
 apply dm.2
 rw[fw,jK,bf]
 unfold afT
 by_cases h:k+2<=s.length
 ·rw[ay h];exact eq_comm
 ·rw[ah h]
  refine⟨λe=> ?_,λe=>by cases e⟩
  have:=bL List.length e
  simp at this
  omega
def Rd(h:H)(B:Nat)(s:List UInt8)(k:Nat):Prop:=hsz h B=2/\wH h B=(0,0)/\hv h B 0=str s/\hv h B 1= .int .i64 k/\k<=s.length/\s.length<=65536
def VG(vs:List Value)(h:H)(K:Value->H->Prop):Prop:=
 ∃(B:Nat) (s:List UInt8) (k:Nat),vs=[.pointer (some ⟨B,0,none⟩)]/\Rd h B s k/\
  ∀j:Nat,j<=s.length->((nK s k).2=true->j=(nK s k).1)->K (.tuple #[.int .i64 (nK s k).1,.bool (nK s k).2]) (lh h B 1 (.int .i64 j))
def MI:mG:=λf vs h K _=>(f=132/\pU vs h K)\/(f=135/\vS vs h K)
theorem TG:nz Tryz.prog MI:=mK yR (qd MH)
theorem aaI(hC:VG vs h K):ma Tryz.prog 124 vs h K KP:=by
 obtain⟨B,s,k,rfl,⟨hz,hf,hs,hk,hkl,hsl⟩,hK⟩:=hC
 refine kP 22835973972341524725499702261030176676466753597 [(none,(.t 2)),(none,(.t 3))] TG Tryz.func124 (by kernel_rfl) (by apply c0 rfl;repeat' first|apply cS|apply cK|apply cL|apply cX|(apply cC (by decide))|with_reducible exact cV 5 (.sts [(zk .nilck (.t 0)),(zg 1 (.t 0)),(zh (zf 1 (.t 0))),(zk .nilck (.t 0)),(zg 0 (.t 0)),(zh (zf 0 (.t 0))),(zk .lens (zl (zf 0 (.t 0)))),(zq .lss (zl (zf 1 (.t 0))) (.o1 .lens (zl (zf 0 (.t 0))))),(.chk [((zb .lss (zl (zf 1 (.t 0))) (.o1 .lens (zl (zf 0 (.t 0))))),true)] (.c1 .nilck (.t 0))),(.chk [((zb .lss (zl (zf 1 (.t 0))) (.o1 .lens (zl (zf 0 (.t 0))))),true)] (.c1 (.fld 0) (.t 0))),(.chk [((zb .lss (zl (zf 1 (.t 0))) (.o1 .lens (zl (zf 0 (.t 0))))),true)] (.c1 .ld1 (zf 0 (.t 0)))),(.chk [((zb .lss (zl (zf 1 (.t 0))) (.o1 .lens (zl (zf 0 (.t 0))))),true)] (.c1 .nilck (.t 0))),(.chk [((zb .lss (zl (zf 1 (.t 0))) (.o1 .lens (zl (zf 0 (.t 0))))),true)] (.c1 (.fld 1) (.t 0))),(.chk [((zb .lss (zl (zf 1 (.t 0))) (.o1 .lens (zl (zf 0 (.t 0))))),true)] (.c1 .ld1 (zf 1 (.t 0)))),(.chk [((zb .lss (zl (zf 1 (.t 0))) (.o1 .lens (zl (zf 0 (.t 0))))),true)] (.c2 .idxS (zl (zf 0 (.t 0))) (zl (zf 1 (.t 0))))),(.chk [((zb .lss (zl (zf 1 (.t 0))) (.o1 .lens (zl (zf 0 (.t 0))))),true)] (.c2 (.bin .neq) (.o2 .idxS (zl (zf 0 (.t 0))) (zl (zf 1 (.t 0)))) (.c (.int .u8 10)))),(.chk [] (.c3 .pick (zb .lss (zl (zf 1 (.t 0))) (.o1 .lens (zl (zf 0 (.t 0))))) (zb .neq (.o2 .idxS (zl (zf 0 (.t 0))) (zl (zf 1 (.t 0)))) (.c (.int .u8 10))) (.c (.bool false)))),(.set 66 (.o3 .pick (zb .lss (zl (zf 1 (.t 0))) (.o1 .lens (zl (zf 0 (.t 0))))) (zb .neq (.o2 .idxS (zl (zf 0 (.t 0))) (zl (zf 1 (.t 0)))) (.c (.int .u8 10))) (.c (.bool false))))]) (by kernel_rfl)|(conv=>lhs;cbv;try simp only[mF])) ?_
 simp(disch:=first|omega|simp only[zz];try omega;done) only[↓reduceIte,go_sem]
 refine kH (fun(j:Nat) σ h'=>σ 0= .pointer (some ⟨B,0,none⟩)/\h'=lh h B 1 (.int .i64 j)/\j<=s.length/\nK s j=nK s k) (λj=>s.length - j) k ⟨by simp [kF],by rw[<-hk,Xt (by omega)],by omega,rfl⟩ ?_
 rintro j σ h' ⟨e0,rfl,hj,he⟩
 simp(disch:=first|omega|simp only[zz];try omega;done) only[↓reduceIte,go_sem,wo,mE,e0,hs,hz,hf,OX,MI,pU,vS,TF]
 try simp only[show(47:UInt8).toNat=47 from rfl,show(42:UInt8).toNat=42 from rfl]
 refine⟨λhlt=>⟨by omega,by omega,λhb=>⟨j+1,by simp,by omega,(TE (by omega) hb).symm.trans he,by omega⟩,λhb=>⟨by omega,by omega,λh37=> ?_,λh37=>⟨by omega,by omega,by simp;omega,λhp=> ?_,λhp=> ?_⟩⟩⟩,λhge=> ?_⟩
 ·have h37':kS s j=37:=by omega
  have g1:=ul s (j+1)
  have g2:=Ci s (j+1) (by omega)
  have e1:rM s j=rM s (j+1):=xP (by omega) (by omega)
  refine kH (fun(i:Nat) σ h'=>σ 0= .pointer (some ⟨B,0,none⟩)/\h'=lh h B 1 (.int .i64 i)/\j<=i/\i<=s.length/\rM s i=rM s j) (λi=>s.length - i) j ⟨by simp [kF,e0],rfl,by omega,hj,rfl⟩ ?_
  rintro i σ h' ⟨e0,rfl,hji,hi,hli⟩
  simp(disch:=first|omega|simp only[zz];try omega;done) only[↓reduceIte,go_sem,mE,e0,hs,hz,hf,OX]
  refine⟨λhlt=>by omega,fun⟨hlt,hne⟩=>⟨i+1,by simp,by omega,by omega,(xP (by omega) (by omega)).symm.trans hli,by omega⟩,λhx=>⟨i,rfl,hi,?_,?_⟩⟩
  ·rw[AZ (by omega)]at hli
   rw[hli,e1];exact(GN (by omega) h37').symm.trans he
  ·rw[AZ (by omega)]at hli
   omega
 ·have hpl:=yz hp
  refine kH (fun(x:Nat×Nat) σ h'=>σ 0= .pointer (some ⟨B,0,none⟩)/\σ 4= .int .i64 j/\σ 5= .int .i64 x.1/\h'=lh h B 1 (.int .i64 x.2)/\j<x.2/\x.2<=s.length/\1<=x.1/\x.1<=x.2/\blk s x.1 x.2=blk s 1 (j+2)) (λx=>s.length - x.2) (1,j+2)
   ⟨by simp [kF,e0],by simp [kF],by simp [kF],by simp,by simp only;omega,by simp only;omega,by simp,by simp,rfl⟩ ?_
  rintro ⟨d,i⟩ σ h' ⟨e0,e4,e5,rfl,hji,hi,hd,hdi,hbe⟩
  simp only at e5 hji hi hd hdi hbe
  simp(disch:=first|omega|simp only[zz];try omega;done) only[↓reduceIte,go_sem,wo,e0,e4,e5,hs,hz,hf,OX,MI,pU,vS,TF]
  try simp only[show(47:UInt8).toNat=47 from rfl,show(42:UInt8).toNat=42 from rfl]
  refine⟨λhlt=>⟨by omega,by omega,by simp;omega,λh1=>⟨(d+1,i+2),by simp,by simp,by simp only;omega,?_,by simp,by simp only;omega,(aaH h1).symm.trans hbe,?_⟩,
   λh1=>⟨by omega,by omega,by simp;omega,λh2=>⟨λhz=>⟨i+2,by simp,?_,?_,?_⟩,λhz=>⟨(d - 1,i+2),?_,by simp,by simp only;omega,?_,?_,by simp only;omega,?_,?_⟩⟩,λh2=>⟨(d,i+1),rfl,by simp,by simp only;omega,by simp only;omega,hd,by simp only;omega,(GM (by omega) h1 h2).symm.trans hbe,by simp only;omega⟩⟩⟩,λhge=> ?_⟩
  ·have:=yz h1;simp only;omega
  ·have:=yz h1;simp only;omega
  ·have:=yz h2;omega
  ·rw[GL h1 h2,ay (by omega)]at hbe
   exact(GQ hp hbe.symm).symm.trans he
  ·have:=yz h2;omega
  ·simp only;omega
  ·have:=yz h2;simp only;omega
  ·simp only;omega
  ·rw[GL h1 h2,ah (by omega)]at hbe;exact hbe
  ·have:=yz h2;simp only;omega
  ·rw[MF (by omega)]at hbe
   rw[<-he,GR hp hbe.symm]at hK
   exact hK i hi (λhx=>by cases hx)
 ·have:=GU hb (by omega) hp
  rw[<-he,this]at hK
  exact hK j hj (λ_=>rfl)
 ·have:=MG (s:=s) (k:=j) (by omega)
  rw[<-he,this]at hK
  exact hK j hj (λ_=>rfl)
end Go.Proofs.Z
