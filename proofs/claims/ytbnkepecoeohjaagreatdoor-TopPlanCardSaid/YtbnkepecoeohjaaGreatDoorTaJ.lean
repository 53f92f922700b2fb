/- A part of the proof. -/
import Derived.Test.YtbnkepecoeohjaaGreatDoorTpR
import Derived.Test.YtbnkepecoeohjaaGreatDoorLexC
import Derived.Test.YtbnkepecoeohjaaGreatDoorTq6
import Derived.Test.YtbnkepecoeohjaaGreatDoorTpW
set_option linter.all false
set_option maxRecDepth 100000
set_option maxHeartbeats 4000000
namespace Go.Proofs.Z
open Go Go.Ev Edict
variable {vs:List Value} {h:H} {K:Value->H->Prop} {KP:List PanicEntry->H->Prop}
theorem tN(hC:Cc uJ vs h K):ma Tryz.prog 104 vs h K KP:=by
 obtain⟨c,rfl,hK⟩:=hC
 refine kP 5 [(none,(.t 2))] (G:=(λ_ _ _ _ _=>False)) (λ_ _ _ _ _ h=>h.elim) Tryz.func104 (by kernel_rfl) (by conv=>lhs;cbv;try simp only[mF]) ?_
 simp(disch:=first|omega|simp only[zz];try omega;done) only[↓reduceIte,go_sem]
 exact kb (by unfold uJ qB upB Pw;apply dm.2;simp;omega) hK
theorem Ba(hC:Cc qB vs h K):ma Tryz.prog 105 vs h K KP:=by
 obtain⟨c,rfl,hK⟩:=hC
 refine kP 5 [(none,(.t 2))] (G:=(λ_ _ _ _ _=>False)) (λ_ _ _ _ _ h=>h.elim) Tryz.func105 (by kernel_rfl) (by conv=>lhs;cbv;try simp only[mF]) ?_
 simp(disch:=first|omega|simp only[zz];try omega;done) only[↓reduceIte,go_sem]
 exact kb (by unfold qB;apply dm.2;simp;omega) hK
theorem aaJ(hC:VE vs h K):ma Tryz.prog 133 vs h K KP:=by
 obtain⟨c,rfl,hc,hK⟩:=hC
 refine kP 16785421 [(none,(.t 2))] (G:=(λ_ _ _ _ _=>False)) (λ_ _ _ _ _ h=>h.elim) Tryz.func133 (by kernel_rfl) (by conv=>lhs;cbv;try simp only[mF]) ?_
 rw[ET,<-VD c hc]at hK
 by_cases h1:48<=c/\c<=57
 ·rw[show qB c=true by unfold qB;simp;omega,ay rfl]at hK
  simp(disch:=first|omega|simp only[zz];try omega;done) only[↓reduceIte,go_sem,af (show(48:Int)<=c by omega),af (show(c:Int)<=57 by omega),wr8]
  exact hK
 rw[show qB c=false by unfold qB;simp;omega,ah (by decide)]at hK
 have e1:(decide ((48:Int)<=c) && decide ((c:Int)<=57))=false:=by simp;omega
 by_cases h2:97<=c/\c<=102
 ·rw[ay h2]at hK
  simp(disch:=first|omega|simp only[zz];try omega;done) only[↓reduceIte,go_sem,af (show(48:Int)<=c by omega),au (show¬(c:Int)<=57 by omega),af (show(97:Int)<=c by omega),af (show(c:Int)<=102 by omega),wr8]
  exact hK
 rw[ah h2]at hK
 by_cases h3:65<=c/\c<=70
 ·rw[ay h3]at hK
  simp(disch:=first|omega|simp only[zz];try omega;done) only[↓reduceIte,go_sem,af (show(48:Int)<=c by omega),au (show¬(c:Int)<=57 by omega),au (show¬(97:Int)<=c by omega),af (show(65:Int)<=c by omega),af (show(c:Int)<=70 by omega),wr8]
  exact hK
 rw[ah h3]at hK
 simp(disch:=first|omega|simp only[zz];try omega;done) only[↓reduceIte,go_sem]
 refine⟨λq=> ?_,λq=>⟨λq=> ?_,λq=>⟨λq=> ?_,λ_=>hK⟩⟩⟩<;>omega
def TM(vs:List Value)(h:H)(K:Value->H->Prop):Prop:= ∃(s:List UInt8) (k:Nat),vs=[str s,.int .i64 k]/\k<=s.length/\s.length<=65536/\K (.tuple #[.int .i64 (nK s k).1,.int .i64 (if(nK s k).2=true then -1 else((nK s k).1:Int))]) h
theorem Kj(hC:TM vs h K):ma Tryz.prog 102 vs h K KP:=by
 obtain⟨s,k,rfl,hk,hs,hK⟩:=hC
 refine kP 1267689290726703356904048955891 [(none,(.t 4)),(none,(.t 5))] (G:=(λ_ _ _ _ _=>False)) (λ_ _ _ _ _ h=>h.elim) Tryz.func102 (by kernel_rfl) (by conv=>lhs;cbv;try simp only[mF]) ?_
 simp(disch:=first|omega|simp only[zz];try omega;done) only[↓reduceIte,go_sem]
 obtain⟨I,hI⟩:=kJ (α:=Nat->lm->H->Prop) λj σ h'=>σ 0=str s/\σ 1= .int .i64 j/\h'=h/\j<=s.length/\nK s j=nK s k
 refine kH I (λj=>s.length - j) k (by rw[hI];exact⟨by simp [kF],by simp [kF],rfl,hk,rfl⟩) ?_
 intro j σ h' hi
 rw[hI]at hi
 obtain⟨e0,e1,rfl,hj,he⟩:=hi
 by_cases hlt:j<s.length
 case neg=>
  have:=MG (s:=s) (k:=j) (by omega)
  rw[<-he,this]at hK
  simp(disch:=first|omega|simp only[zz];try omega;done) only[↓reduceIte,go_sem,e0,e1,au (show¬(j:Int)<s.length by omega)]
  exact hK
 have hl:(j:Int)<s.length:=by omega
 obtain⟨c,hc⟩:=kJ (kS s j)
 by_cases hb:c=32\/c=9\/c=10\/c=13
 ·have hb':Ch (kS s j)=true:=by rw[<-hc];unfold Ch;simp;omega
  rcases hb with q|q|q|q
  all_goals
   simp(disch:=first|omega|simp only[zz];try omega;done) only[↓reduceIte,go_sem,e0,e1,af hl,mE,<-hc,q]
   exact⟨j+1,by rw[hI];exact⟨by simp [kF,e0],by simp [kF],rfl,by omega,(TE hlt hb').symm.trans he⟩,by omega⟩
 have hb':Ch (kS s j)=false:=by rw[<-hc];unfold Ch;simp;omega
 have n1:=au (show¬(c:Int)=32 by omega)
 have n2:=au (show¬(c:Int)=9 by omega)
 have n3:=au (show¬(c:Int)=10 by omega)
 have n4:=au (show¬(c:Int)=13 by omega)
 by_cases h37:c=37
 ·simp(disch:=first|omega|simp only[zz];try omega;done) only[↓reduceIte,go_sem,e0,e1,af hl,mE,<-hc,n1,n2,n3,n4,af (show(c:Int)=37 by omega)]
  obtain⟨J,hJ⟩:=kJ (α:=Nat->lm->H->Prop) λi σ h''=>σ 0=str s/\σ 1= .int .i64 i/\h''=h'/\j<=i/\i<=s.length/\rM s i=rM s j
  refine kH J (λi=>s.length - i) j (by rw[hJ];exact⟨by simp [kF,e0],by simp [kF,e1],rfl,by omega,hj,rfl⟩) ?_
  intro i σ h' hi
  rw[hJ]at hi
  obtain⟨e0,e1,rfl,hji,hi,hli⟩:=hi
  have g1:rM s j=rM s (j+1):=xP hlt (by omega)
  have g2:=ul s (j+1)
  have g3:=Ci s (j+1) (by omega)
  by_cases hx:i<s.length/\kS s i≠10
  ·simp(disch:=first|omega|simp only[zz];try omega;done) only[↓reduceIte,go_sem,e0,e1,af (show(i:Int)<s.length by omega),mE,au (show¬(kS s i:Int)=10 by omega)]
   exact⟨i+1,by rw[hJ];exact⟨by simp [kF,e0],by simp [kF],rfl,by omega,by omega,(xP hx.1 hx.2).symm.trans hli⟩,by omega⟩
  ·have hli2:=hli
   rw[AZ hx]at hli2
   have out:nK s i=nK s k:=by rw[hli2,g1];exact(GN hlt (by omega)).symm.trans he
   by_cases Df:i<s.length
   ·simp(disch:=first|omega|simp only[zz];try omega;done) only[↓reduceIte,go_sem,e0,e1,af (show(i:Int)<s.length by omega),mE,af (show(kS s i:Int)=10 by omega)]
    exact⟨i,by rw[hI];exact⟨by simp [kF,e0],by simp [kF,e1],rfl,hi,out⟩,by omega⟩
   ·simp(disch:=first|omega|simp only[zz];try omega;done) only[↓reduceIte,go_sem,e0,e1,au (show¬(i:Int)<s.length by omega),mE]
    exact⟨i,by rw[hI];exact⟨by simp [kF,e0],by simp [kF,e1],rfl,hi,out⟩,by omega⟩
 have n5:=au (show¬(c:Int)=37 by omega)
 have ej:(j:Int)+1=((j+1:Nat):Int):=by omega
 cases hp:pr s j 47 42 with
 |false=>
  have:=GU hb' (by omega) hp
  rw[<-he,this]at hK
  by_cases q1:c=47
  ·by_cases q2:j+1<s.length
   ·have q3:kS s (j+1)≠42:=λq=>by unfold pr at hp;rw[<-hc,q1,q]at hp;simp at hp;omega
    simp(disch:=first|omega|simp only[zz];try omega;done) only[↓reduceIte,go_sem,e0,e1,af hl,mE,<-hc,n1,n2,n3,n4,n5,af (show(c:Int)=47 by omega),ej,au (show¬s.length<=j+1 by omega),af (show j+1<s.length by omega),au (show¬(kS s (j+1):Int)=42 by omega)]
    exact hK
   ·simp(disch:=first|omega|simp only[zz];try omega;done) only[↓reduceIte,go_sem,e0,e1,af hl,mE,<-hc,n1,n2,n3,n4,n5,af (show(c:Int)=47 by omega),af (show(s.length:Int)<=(j:Int)+1 by omega)]
    exact hK
  ·simp(disch:=first|omega|simp only[zz];try omega;done) only[↓reduceIte,go_sem,e0,e1,af hl,mE,<-hc,n1,n2,n3,n4,n5,au (show¬(c:Int)=47 by omega)]
   exact hK
 |true=>
  have hpl:=yz hp
  have hp':=hp
  unfold pr at hp'
  simp only[bA,bf,beq_iff_eq]at hp'
  simp(disch:=first|omega|simp only[zz];try omega;done) only[↓reduceIte,go_sem,e0,e1,af hl,mE,<-hc,n1,n2,n3,n4,n5,af (show(c:Int)=47 by omega),ej,au (show¬s.length<=j+1 by omega),af (show j+1<s.length by omega),af (show(kS s (j+1):Int)=42 by omega)]
  obtain⟨J,hJ⟩:=kJ (α:=Nat×Nat->lm->H->Prop) λx σ h''=>σ 0=str s/\σ 7= .int .i64 j/\σ 8= .int .i64 x.1/\σ 1= .int .i64 x.2/\h''=h'/\j<x.2/\x.2<=s.length/\x.1<=x.2/\(if x.1=0 then blk s 1 (j+2)=some x.2 else blk s x.1 x.2=blk s 1 (j+2))
  refine kH J (λx=>s.length - x.2) (1,j+2) (by rw[hJ];exact⟨by simp [kF,e0],by simp [kF],by simp [kF],by simp [kF],rfl,by simp only;omega,by simp only;omega,by simp,rfl⟩) ?_
  rintro ⟨d,i⟩ σ h' hi
  rw[hJ]at hi
  obtain⟨e0,e7,e8,e1,rfl,hji,hi,hdi,hbe⟩:=hi
  simp only at e8 e1 hji hi hdi hbe
  by_cases hd:d=0
  ·rw[ay hd]at hbe
   simp(disch:=first|omega|simp only[zz];try omega;done) only[↓reduceIte,go_sem,e8,au (show¬(0:Int)<(d:Int) by omega)]
   exact⟨i,by rw[hI];exact⟨by simp [kF,e0],by simp [kF,e1],rfl,hi,(GQ hp hbe).symm.trans he⟩,by omega⟩
  rw[ah hd]at hbe
  have d0:=af (show(0:Int)<(d:Int) by omega)
  have ei:(i:Int)+1=((i+1:Nat):Int):=by omega
  by_cases hil:i+1<s.length
  case neg=>
   have hn:blk s 1 (j+2)=none:=by
    rw[<-hbe]
    by_cases hi2:i<s.length
    ·have p1: ∀a b,pr s i a b=false:=λa b=>by unfold pr;rw[decide_eq_false hil];rfl
     rw[GM hi2 (p1 _ _) (p1 _ _),MF (by omega)]
    ·exact MF (by omega)
   have:=GR hp hn
   rw[<-he,this]at hK
   simp(disch:=first|omega|simp only[zz];try omega;done) only[↓reduceIte,go_sem,e0,e1,e7,e8,d0,af (show(s.length:Int)<=(i:Int)+1 by omega)]
   exact hK
  have l1:=au (show¬s.length<=i+1 by omega)
  have l2:=af (show(i:Int)<s.length by omega)
  have l3:=af hil
  cases p1:pr s i 47 42 with
  |true=>
   have p1':=p1
   unfold pr at p1'
   simp only[bA,bf,beq_iff_eq]at p1'
   simp(disch:=first|omega|simp only[zz];try omega;done) only[↓reduceIte,go_sem,e0,e1,e8,d0,l1,l2,l3,ei,mE,af (show(kS s i:Int)=47 by omega),af (show(kS s (i+1):Int)=42 by omega)]
   exact⟨(d+1,i+2),by rw[hJ];exact⟨by simp [kF,e0],by simp [kF,e7],by simp [kF],by simp [kF],rfl,by simp only;omega,by simp only;omega,by simp only;omega,by rw[ah (by simp)];exact(aaH p1).symm.trans hbe⟩,by simp only;omega⟩
  |false=>
   cases p2:pr s i 42 47 with
   |true=>
    have p2':=p2
    unfold pr at p2'
    simp only[bA,bf,beq_iff_eq]at p2'
    simp(disch:=first|omega|simp only[zz];try omega;done) only[↓reduceIte,go_sem,e0,e1,e8,d0,l1,l2,l3,ei,mE,au (show¬(kS s i:Int)=47 by omega),af (show(kS s i:Int)=42 by omega),af (show(kS s (i+1):Int)=47 by omega)]
    refine⟨(d - 1,i+2),?_,by simp only;omega⟩
    rw[hJ]
    refine⟨by simp [kF,e0],by simp [kF,e7],by simp [kF];omega,by simp [kF],rfl,by simp only;omega,by simp only;omega,by simp only;omega,?_⟩
    rw[GL p1 p2]at hbe
    simp only
    split
    ·rw[ay (by omega)]at hbe;exact hbe.symm
    ·rw[ah (by omega)]at hbe;exact hbe
   |false=>
    by_cases a1:kS s i=47
    ·have a2:kS s (i+1)≠42:=λq=>by unfold pr at p1;rw[a1,q]at p1;simp at p1;omega
     simp(disch:=first|omega|simp only[zz];try omega;done) only[↓reduceIte,go_sem,e0,e1,e8,d0,l1,l2,l3,ei,mE,af (show(kS s i:Int)=47 by omega),au (show¬(kS s (i+1):Int)=42 by omega),au (show¬(kS s i:Int)=42 by omega)]
     exact⟨(d,i+1),by rw[hJ];exact⟨by simp [kF,e0],by simp [kF,e7],by simp [kF,e8],by simp [kF],rfl,by simp only;omega,by simp only;omega,by simp only;omega,by rw[ah hd];exact(GM (by omega) p1 p2).symm.trans hbe⟩,by simp only;omega⟩
    by_cases a3:kS s i=42
    ·have a2:kS s (i+1)≠47:=λq=>by unfold pr at p2;rw[a3,q]at p2;simp at p2;omega
     simp(disch:=first|omega|simp only[zz];try omega;done) only[↓reduceIte,go_sem,e0,e1,e8,d0,l1,l2,l3,ei,mE,au (show¬(kS s i:Int)=47 by omega),af (show(kS s i:Int)=42 by omega),au (show¬(kS s (i+1):Int)=47 by omega)]
     exact⟨(d,i+1),by rw[hJ];exact⟨by simp [kF,e0],by simp [kF,e7],by simp [kF,e8],by simp [kF],rfl,by simp only;omega,by simp only;omega,by simp only;omega,by rw[ah hd];exact(GM (by omega) p1 p2).symm.trans hbe⟩,by simp only;omega⟩
    ·simp(disch:=first|omega|simp only[zz];try omega;done) only[↓reduceIte,go_sem,e0,e1,e8,d0,l1,l2,ei,mE,au (show¬(kS s i:Int)=47 by omega),au (show¬(kS s i:Int)=42 by omega)]
     exact⟨(d,i+1),by rw[hJ];exact⟨by simp [kF,e0],by simp [kF,e7],by simp [kF,e8],by simp [kF],rfl,by simp only;omega,by simp only;omega,by simp only;omega,by rw[ah hd];exact(GM (by omega) p1 p2).symm.trans hbe⟩,by simp only;omega⟩
end Go.Proofs.Z
namespace Edict
theorem FC{s:List UInt8}{o:Nat}: ∀(n i:Nat) (acc v:List UInt8) (e:Int),s.length - i<=n->mU s o i acc= .ok (4,v,0,0,(o:Int),e)-> ∃r,v=acc++r
 |n,i,acc,v,e,hn,h=>by
  unfold mU at h
  split at h
  ·split at h
   ·cases h;exact⟨[],by simp⟩
   ·split at h
    ·split at h
     ·cases h
     ·split at h
      ·cases h
      ·rename_i q1 q2
       have:=tH s i
       cases n with
       |zero=>omega
       |succ n=>obtain⟨r,hr⟩:=FC n _ _ v e (by omega) h;exact⟨_::r,by rw[hr,bB];rfl⟩
    ·split at h
     ·cases h
     ·cases n with
      |zero=>omega
      |succ n=>obtain⟨r,hr⟩:=FC n _ _ v e (by omega) h;exact⟨_::r,by rw[hr,bB];rfl⟩
  ·cases h
theorem Ki{α:Type}{v:List α}{k:Nat}{x:α}{r:List α}(h:v=v.take k++[x]++r)(hk:k<=v.length):k<v.length/\v[k]? =some x/\v.take (k+1)=v.take k++[x]:=by
 have hl:(v.take k).length=k:=by rw[aT];omega
 have e:v[k]? =some x:=by rw[h,bB,bX (by omega),hl,Nat.sub_self];rfl
 have hlt:=(aJ.1 e).1
 refine⟨hlt,e,?_⟩
 rw[aS,e];rfl
theorem XT(l:List UInt8)(c:UInt8):qE (l++[c])=qE l*10+(c.toNat - 48):=by unfold qE;rw[iJ];rfl
theorem adA(l m:List UInt8):qE l<=qE (l++m):=by
 have:qE (l++m)=Jp (qE l) m:=by unfold qE Jp;rw[iJ]
 rw[this];exact Mv m _
end Edict
namespace Go.Proofs.Z
open Go Go.Ev Edict
variable {vs:List Value} {h:H} {K:Value->H->Prop} {KP:List PanicEntry->H->Prop}
def PH(vs:List Value)(h:H)(K:Value->H->Prop):Prop:= ∃(s:List UInt8) (i:Nat),vs=[str s,.int .i64 i]/\i<=s.length/\s.length<=65536/\K (.tuple #[.int .u8 (nU s i).1,.int .i64 (nU s i).2]) h
def adB:mG:=λf vs h K _=>f=133/\VE vs h K
theorem TI:nz Tryz.prog adB:=qd aaJ
theorem PK(hC:PH vs h K):ma Tryz.prog 121 vs h K KP:=by
 obtain⟨s,i,rfl,hi,hs,hK⟩:=hC
 refine kP 1125900263408691 [(none,(.t 4)),(none,(.t 5))] TI Tryz.func121 (by kernel_rfl) (by apply c0 rfl;repeat' first|apply cS|apply cK|apply cL|apply cX|(apply cC (by decide))|(conv=>lhs;cbv;try simp only[mF])) ?_
 have ei:(i:Int)+1=((i+1:Nat):Int):=by omega
 have ej:(i:Int)+2=((i+2:Nat):Int):=by omega
 have ek:(i:Int)+3=((i+3:Nat):Int):=by omega
 by_cases hl:i+1<s.length
 case neg=>
  have e:nU s i=(0,0):=by unfold nU;rw[si (by omega)];rfl
  rw[e]at hK
  simp(disch:=first|omega|simp only[zz];try omega;done) only[↓reduceIte,go_sem,ei,af (show s.length<=i+1 by omega)]
  exact hK
 have l1:=au (show¬s.length<=i+1 by omega)
 have l2:=af hl
 have fin: ∀c a b,kS s (i+1)=c->nU s i=(a,b)->K (.tuple #[.int .u8 (a:Nat),.int .i64 (b:Nat)]) h:=λc a b _ e=>by rw[e]at hK;exact hK
 by_cases q1:kS s (i+1)=34
 ·have:=fin _ 34 2 q1 (by unfold nU;rw[q1];rfl)
  simp(disch:=first|omega|simp only[zz];try omega;done) only[↓reduceIte,go_sem,ei,l1,l2,mE,q1]
  exact this
 by_cases q2:kS s (i+1)=92
 ·have:=fin _ 92 2 q2 (by unfold nU;rw[q2];rfl)
  simp(disch:=first|omega|simp only[zz];try omega;done) only[↓reduceIte,go_sem,ei,l1,l2,mE,q2]
  exact this
 by_cases q3:kS s (i+1)=110
 ·have:=fin _ 10 2 q3 (by unfold nU;rw[q3];rfl)
  simp(disch:=first|omega|simp only[zz];try omega;done) only[↓reduceIte,go_sem,ei,l1,l2,mE,q3]
  exact this
 by_cases q4:kS s (i+1)=116
 ·have:=fin _ 9 2 q4 (by unfold nU;rw[q4];rfl)
  simp(disch:=first|omega|simp only[zz];try omega;done) only[↓reduceIte,go_sem,ei,l1,l2,mE,q4]
  exact this
 by_cases q5:kS s (i+1)=114
 ·have:=fin _ 13 2 q5 (by unfold nU;rw[q5];rfl)
  simp(disch:=first|omega|simp only[zz];try omega;done) only[↓reduceIte,go_sem,ei,l1,l2,mE,q5]
  exact this
 have n1:=au (show¬(kS s (i+1):Int)=34 by omega)
 have n2:=au (show¬(kS s (i+1):Int)=92 by omega)
 have n3:=au (show¬(kS s (i+1):Int)=110 by omega)
 have n4:=au (show¬(kS s (i+1):Int)=116 by omega)
 have n5:=au (show¬(kS s (i+1):Int)=114 by omega)
 unfold nU at hK
 rw[ah q1,ah q2,ah q3,ah q4,ah q5]at hK
 by_cases q6:kS s (i+1)=120
 case neg=>
  rw[ah q6]at hK
  simp(disch:=first|omega|simp only[zz];try omega;done) only[↓reduceIte,go_sem,ei,l1,l2,mE,n1,n2,n3,n4,n5,au (show¬(kS s (i+1):Int)=120 by omega)]
  exact hK
 rw[ay q6]at hK
 by_cases h3:i+3<s.length
 case neg=>
  have e3:Al (kS s (i+3))=none:=by rw[si (by omega)];rfl
  rw[e3]at hK
  simp(disch:=first|omega|simp only[zz];try omega;done) only[↓reduceIte,go_sem,ei,ek,l1,l2,mE,q6,au h3]
  cases h2:Al (kS s (i+2))<;>rw[h2]at hK<;>exact hK
 have l3:=af h3
 have l4:=af (show i+2<s.length by omega)
 simp(disch:=first|omega|simp only[zz];try omega;done) only[↓reduceIte,go_sem,ei,ej,ek,l1,l2,l3,l4,mE,q6]
 refine kD ⟨rfl,_,rfl,yO _ _,⟨kY,?_⟩⟩
 cases ha:Al (kS s (i+2))with
 |none=>
  rw[ha]at hK
  have e:ET (kS s (i+2))= -1:=by unfold ET;rw[ha]
  rw[e]
  simp(disch:=first|omega|simp only[zz];try omega;done) only[↓reduceIte,go_sem]
  exact hK
 |some a=>
  have e:ET (kS s (i+2))=a:=by unfold ET;rw[ha]
  have ha16:=FB ha
  rw[e]
  simp(disch:=first|omega|simp only[zz];try omega;done) only[↓reduceIte,go_sem,ek,l3,mE,af (show(0:Int)<=(a:Int) by omega)]
  refine kD ⟨rfl,_,rfl,yO _ _,⟨kY,?_⟩⟩
  cases hb:Al (kS s (i+3))with
  |none=>
   rw[ha,hb]at hK
   have e:ET (kS s (i+3))= -1:=by unfold ET;rw[hb]
   rw[e]
   simp(disch:=first|omega|simp only[zz];try omega;done) only[↓reduceIte,go_sem]
   exact hK
  |some b=>
   rw[ha,hb]at hK
   have e':ET (kS s (i+3))=b:=by unfold ET;rw[hb]
   have hb16:=FB hb
   rw[e']
   simp(disch:=first|omega|simp only[zz];try omega;done) only[↓reduceIte,go_sem,ej,ek,l3,l4,mE,af (show(0:Int)<=(b:Int) by omega)]
   refine kD ⟨rfl,_,rfl,yO _ _,⟨kY,?_⟩⟩
   rw[e]
   simp(disch:=first|omega|simp only[zz];try omega;done) only[↓reduceIte,go_sem,ek,mE]
   refine kD ⟨rfl,_,rfl,yO _ _,⟨kY,?_⟩⟩
   rw[e']
   simp(disch:=first|omega|simp only[zz];try omega;done) only[↓reduceIte,go_sem,wr8]
   exact hK
def PN(vs:List Value)(h:H)(K:Value->H->Prop):Prop:= ∃(w v:List UInt8),vs=[str w,str v]/\w.length<=65536/\v.length<=255/\kS w 0=34/\mU w 0 1 []= .ok (4,v,0,0,0,(w.length:Int))/\K (.bool true) h
def TK:mG:=λf vs h K _=>f=121/\PH vs h K
theorem Aw:nz Tryz.prog TK:=qd PK
theorem PO(hC:PN vs h K):ma Tryz.prog 120 vs h K KP:=by
 obtain⟨w,v,rfl,hw,hv,h0,ht,hK⟩:=hC
 refine kP 9227877011425329651 [(none,(.t 4))] Aw Tryz.func120 (by kernel_rfl) (by conv=>lhs;cbv;try simp only[mF]) ?_
 have hend: ∀{i:Nat} {acc:List UInt8},mU w 0 i acc= .ok (4,v,0,0,0,(w.length:Int))->i<w.length:=λq=>by
  obtain⟨e,v',q1,q2,-⟩:=yP q
  simp only[bS]at q1
  omega
 have h1:=hend ht
 have hlast:kS w (w.length - 1)=34:=by
  have key: ∀(n i:Nat) (acc:List UInt8),w.length - i<=n->mU w 0 i acc= .ok (4,v,0,0,0,(w.length:Int))->kS w (w.length - 1)=34:=by
   intro n
   induction n with
   |zero=>intro i acc q1 q2;have:=hend q2;omega
   |succ n ih=>
    intro i acc q1 q2
    have q3:=q2
    unfold mU at q3
    split at q3
    ·split at q3
     ·rename_i q4 q5
      simp only[TR.ok.injEq,bS]at q3
      have e:w.length - 1=i:=by omega
      rw[e];exact q5
     ·split at q3
      ·split at q3
       ·cases q3
       ·split at q3
        ·cases q3
        ·have:=tH w i;exact ih _ _ (by omega) q3
      ·split at q3
       ·cases q3
       ·exact ih _ _ (by omega) q3
    ·cases q3
  exact key _ _ _ (aH _) ht
 have e1:(w.length:Int) - 1=((w.length - 1:Nat):Int):=by omega
 simp(disch:=first|omega|simp only[zz];try omega;done) only[↓reduceIte,go_sem,au (show¬(w.length:Int)<2 by omega),af (show(0:Int)<w.length by omega),af (show w.length - 1<w.length by omega),e1,mE,h0,hlast]
 obtain⟨I,hI⟩:=kJ (α:=Nat×Nat->lm->H->Prop) λx σ h'=>σ 0=str w/\σ 1=str v/\σ 5= .int .i64 x.2/\σ 6= .int .i64 x.1/\h'=h/\x.2<=v.length/\mU w 0 x.1 (v.take x.2)= .ok (4,v,0,0,0,(w.length:Int))
 refine kH I (λx=>w.length - x.1) (1,0) (by rw[hI];exact⟨by simp [kF],by simp [kF],by simp [kF],by simp [kF],rfl,by simp,ht⟩) ?_
 rintro ⟨i,k⟩ σ h' hi
 rw[hI]at hi
 obtain⟨e0,e1',e5,e6,rfl,hk,hx⟩:=hi
 simp only at e5 e6 hk hx
 have hil:=hend hx
 have hx':=hx
 unfold mU at hx'
 by_cases hle:i+1<w.length
 case neg=>
  have hb:kS w i=34:=by rw[show i=w.length - 1 by omega];exact hlast
  rw[ay ⟨hil,by omega⟩,ay hb]at hx'
  have hkv:v.take k=v:=by
   simp only[TR.ok.injEq,bS]at hx'
   exact hx'.2.1
  have:k=v.length:=by have:=bL List.length hkv;rw[aT]at this;omega
  simp(disch:=first|omega|simp only[zz];try omega;done) only[↓reduceIte,go_sem,e0,e1',e5,e6,e1,au (show¬i<w.length - 1 by omega),this]
  exact hK
 have l1:=af (show i<w.length - 1 by omega)
 split at hx'
 case isFalse=>cases hx'
 rename_i h32
 split at hx'
 ·simp only[TR.ok.injEq,bS]at hx';omega
 rename_i n34
 have m1:=au (show¬(kS w i:Int)=34 by omega)
 have m2:=au (show¬(kS w i:Int)<32 by omega)
 split at hx'
 ·rename_i h92
  split at hx'
  ·cases hx'
  rename_i hn0
  split at hx'
  ·cases hx'
  obtain⟨r,hr⟩:=FC w.length _ _ v _ (by omega) hx'
  obtain⟨k1,k2,k3⟩:=Ki hr hk
  have hnx:=hend hx'
  have hel:=tH w i
  have hesc:nU (w.take (w.length - 1)) i=nU w i:=VW hn0 λm hm=>by
   unfold kS
   rw[aO,aO,bV,ay (by omega)]
  simp(disch:=first|omega|simp only[zz];try omega;done) only[↓reduceIte,go_sem,e0,e6,e1,l1,af hil,af (show w.length - 1<=w.length by omega),mE,m1,m2,af (show(kS w i:Int)=92 by omega)]
  refine kD ⟨rfl,w.take (w.length - 1),i,rfl,by rw[aT];omega,by rw[aT];omega,⟨kY,?_⟩⟩
  rw[hesc]
  have hb:(v.getD k 0).toNat=(nU w i).1:=by rw[aO,k2];exact zQ (Px w i)
  simp(disch:=first|omega|simp only[zz];try omega;done) only[↓reduceIte,go_sem,e1',e5,e6,au (show¬((nU w i).2:Int)=0 by omega),au (show¬v.length<=k by omega),af k1,hb]
  exact⟨(i+(nU w i).2,k+1),by rw[hI];exact⟨by simp [kF,e0],by simp [kF,e1'],by simp [kF],by simp [kF],rfl,k1,by simp only;rw[k3];exact hx'⟩,by simp only;omega⟩
 ·rename_i n92
  split at hx'
  ·cases hx'
  obtain⟨r,hr⟩:=FC w.length _ _ v _ (by omega) hx'
  obtain⟨k1,k2,k3⟩:=Ki hr hk
  have hb:(v.getD k 0).toNat=kS w i:=by rw[aO,k2];exact zQ (yO w i)
  simp(disch:=first|omega|simp only[zz];try omega;done) only[↓reduceIte,go_sem,e0,e1',e5,e6,e1,l1,af hil,mE,m1,m2,au (show¬(kS w i:Int)=92 by omega),au (show¬v.length<=k by omega),af k1,hb]
  exact⟨(i+1,k+1),by rw[hI];exact⟨by simp [kF,e0],by simp [kF,e1'],by simp [kF],by simp [kF],rfl,k1,by simp only;rw[k3];exact hx'⟩,by simp only;omega⟩
theorem TL{n:Int}(h1:0<=n)(h2:n<=18446744073709551615):IntKind.u64.wrap n=n:=by
 have e:n % 18446744073709551616=n:=Int.emod_eq_of_lt h1 (by omega)
 unfold IntKind.wrap
 simp [IntKind.bits,IntKind.signed,e]
theorem afU{n:Int}(h1: -9223372036854775808<=n)(h2:n<=9223372036854775807):IntKind.i64.wrap n=n:=by
 unfold IntKind.wrap
 simp [IntKind.bits,IntKind.signed]
 omega
def MJ(vs:List Value)(h:H)(K:Value->H->Prop):Prop:= ∃(neg:Bool) (d:List UInt8),vs=[str (uO neg++d)]/\d≠[]/\(∀c∈d,qB c.toNat=true)/\d.length<=65536/\(∀n,rX neg d=some n->K (.tuple #[.int .i64 n,.bool true]) h)/\(rX neg d=none-> ∀n,K (.tuple #[.int .i64 n,.bool false]) h)
theorem GX(hC:MJ vs h K):ma Tryz.prog 119 vs h K KP:=by
 obtain⟨neg,d,rfl,hne,hd,hl,hK,hN⟩:=hC
 refine kP 275414911229 [(none,(.t 2)),(none,(.t 3))] (G:=(λ_ _ _ _ _=>False)) (λ_ _ _ _ _ h=>h.elim) Tryz.func119 (by kernel_rfl) (by conv=>lhs;cbv;try simp only[mF]) ?_
 have hpos:0<d.length:=fO.2 hne
 have dg: ∀i,i<d.length->48<=kS d i/\kS d i<=57/\d.take (i+1)=d.take i++[d.getD i 0]:=λi hi=>by
  obtain⟨x,hx⟩:=uu hi
  have:=hd x (aI hx)
  unfold qB at this
  simp only[bA,bf]at this
  unfold kS
  rw[aO,hx]
  refine⟨this.1,this.2,?_⟩
  rw[aS,hx];rfl
 have step: ∀i,i<d.length->qE (d.take (i+1))=qE (d.take i)*10+(kS d i - 48):=λi hi=>by rw[(dg i hi).2.2,XT];rfl
 have up: ∀i,qE (d.take i)<=qE d:=λi=>by have:=adA (d.take i) (d.drop i);rwa [dC]at this
 obtain⟨I,hI⟩:=kJ (α:=Nat->lm->H->Prop) λi σ h'=>σ 0=str d/\σ 4= .bool neg/\σ 5= .int .u64 (qE (d.take i):Nat)/\σ 6= .int .i64 i/\h'=h/\i<=d.length/\qE (d.take i)<=18446744073709551615
 cases neg
 all_goals
  simp only[uO,dx,aV,bZ,bI,bO]
  first
   |(simp(disch:=first|omega|simp only[zz];try omega;done) only[↓reduceIte,go_sem,af (show(0:Int)<d.length by omega),mE,au (show¬(kS d 0:Int)=45 by have:=(dg 0 hpos).1;omega)]
     refine kH I (λi=>d.length - i) 0 (by rw[hI];exact⟨by simp [kF],by simp [kF],by simp [kF,qE],by simp [kF],rfl,by omega,by simp [qE]⟩) ?_)
   |(simp(disch:=first|omega|simp only[zz];try omega;done) only[↓reduceIte,go_sem,show UInt8.toNat 45=45 from rfl,af (show(0:Int)<((d.length+1:Nat):Int) by omega),af (show(1:Int)<=((d.length+1:Nat):Int) by omega),gL,eU]
     refine kH I (λi=>d.length - i) 0 (by rw[hI];exact⟨by simp [kF],by simp [kF],by simp [kF,qE],by simp [kF],rfl,by omega,by simp [qE]⟩) ?_)
  intro i σ h' hi
  rw[hI]at hi
  obtain⟨e0,e4,e5,e6,rfl,hi,hn⟩:=hi
  by_cases hlt:i<d.length
  ·obtain⟨g1,g2,g3⟩:=dg i hlt
   have hs:=step i hlt
   obtain⟨n,hnn⟩:=kJ (qE (d.take i))
   obtain⟨c,hc⟩:=kJ (kS d i)
   rw[<-hnn,<-hc]at hs
   rw[<-hnn]at e5 hn
   rw[<-hc]at g1 g2
   have w1:IntKind.u8.wrap ((c:Int) - 48)=((c - 48:Nat):Int):=by rw[wr8 (by omega) (by omega)];omega
   obtain⟨q,hq,hq1,hq2⟩: ∃q:Nat,(18446744073709551615 - ((c - 48:Nat):Int)).tdiv 10=q/\q*10<=18446744073709551615 - (c - 48)/\18446744073709551615 - (c - 48)<q*10+10:=by
    refine⟨((18446744073709551615 - ((c - 48:Nat):Int)).tdiv 10).toNat,?_,?_,?_⟩<;>rw[Int.tdiv_eq_ediv_of_nonneg (by omega)]<;>omega
   have w2:IntKind.u64.wrap ((c - 48:Nat):Int)=((c - 48:Nat):Int):=TL (by omega) (by omega)
   have w3:IntKind.u64.wrap (18446744073709551615 - ((c - 48:Nat):Int))=18446744073709551615 - ((c - 48:Nat):Int):=TL (by omega) (by omega)
   have w4:IntKind.u64.wrap ((q:Nat):Int)=q:=TL (by omega) (by omega)
   by_cases ho:q<n
   ·have hu:=up (i+1)
    simp(disch:=first|omega|simp only[zz];try omega;done) only[↓reduceIte,go_sem,e0,e5,e6,af (show(i:Int)<d.length by omega),mE,<-hc,w1,w2,w3,hq,w4,af ho]
    exact hN (by unfold rX;first|(rw[ay rfl,ah (by omega)];done)|(rw[ah (by decide),ah (by omega)];done)) 0
   ·have w5:IntKind.u64.wrap ((n:Int)*10)=(n:Int)*10:=TL (by omega) (by omega)
    have w6:IntKind.u64.wrap ((n:Int)*10+((c - 48:Nat):Int))=((n*10+(c - 48):Nat):Int):=by rw[TL (by omega) (by omega)];omega
    simp(disch:=first|omega|simp only[zz];try omega;done) only[↓reduceIte,go_sem,e0,e5,e6,af (show(i:Int)<d.length by omega),mE,<-hc,w1,w2,w3,hq,w4,au ho,w5,w6]
    exact⟨i+1,by rw[hI];exact⟨by simp [kF,e0],by simp [kF,e4],by simp only[kF,hs];rfl,by simp [kF],rfl,by omega,by rw[hs];omega⟩,by omega⟩
  ·have hid:d.take i=d:=aK (by omega)
   rw[hid]at e5 hn
   obtain⟨n,hnn⟩:=kJ (qE d)
   rw[<-hnn]at e5 hn
   have hp: ∀neg,rX neg d=if neg=true then(if n<=9223372036854775808 then some (-(n:Int))else none)else if n<=9223372036854775807 then some (n:Int)else none:=λneg=>by unfold rX;rw[hnn]
   rw[hp]at hK hN
   simp only[dx,aV,bZ]at hK hN
   by_cases hb:n<=9223372036854775807
   ·have c1:IntKind.i64.wrap (n:Int)=n:=afU (by omega) (by omega)
    first
     |(have hK:=hK (n:Int) (by rw[ay (by omega)])
       simp(disch:=first|omega|simp only[zz];try omega;done) only[↓reduceIte,go_sem,e0,e4,e5,e6,au (show¬(i:Int)<d.length by omega),c1,af (show(n:Int)<9223372036854775808 by omega)]
       exact hK)
     |(have hK:=hK (-(n:Int)) (by rw[ay (by omega)])
       by_cases h0:n=0
       ·subst h0
        simp(disch:=first|omega|simp only[zz];try omega;done) only[↓reduceIte,go_sem,e0,e4,e5,e6,au (show¬(i:Int)<d.length by omega)]
        exact hK
       ·have c2:IntKind.u64.wrap ((n:Int) - 1)=(n:Int) - 1:=TL (by omega) (by omega)
        have c3:IntKind.i64.wrap ((n:Int) - 1)=(n:Int) - 1:=afU (by omega) (by omega)
        have c4:0 - ((n:Int) - 1) - 1= -(n:Int):=by omega
        simp(disch:=first|omega|simp only[zz];try omega;done) only[↓reduceIte,go_sem,e0,e4,e5,e6,au (show¬(i:Int)<d.length by omega),af (show(n:Int)<=9223372036854775808 by omega),c2,c3,c4]
        exact hK)
   ·first
     |(have hN:=hN (by rw[ah (by omega)])
       simp(disch:=first|omega|simp only[zz];try omega;done) only[↓reduceIte,go_sem,e0,e4,e5,e6,au (show¬(i:Int)<d.length by omega),au (show¬(n:Int)<9223372036854775808 by omega)]
       exact hN _)
     |(by_cases hm:n<=9223372036854775808
       ·have hK:=hK (-(n:Int)) (by rw[ay hm])
        have c2:IntKind.u64.wrap ((n:Int) - 1)=(n:Int) - 1:=TL (by omega) (by omega)
        have c3:IntKind.i64.wrap ((n:Int) - 1)=(n:Int) - 1:=afU (by omega) (by omega)
        have c4:0 - ((n:Int) - 1) - 1= -(n:Int):=by omega
        simp(disch:=first|omega|simp only[zz];try omega;done) only[↓reduceIte,go_sem,e0,e4,e5,e6,au (show¬(i:Int)<d.length by omega),af (show(n:Int)<=9223372036854775808 by omega),c2,c3,c4]
        exact hK
       ·have hN:=hN (by rw[ah hm])
        simp(disch:=first|omega|simp only[zz];try omega;done) only[↓reduceIte,go_sem,e0,e4,e5,e6,au (show¬(i:Int)<d.length by omega),au (show¬(n:Int)<=9223372036854775808 by omega)]
        exact hN _)
end Go.Proofs.Z
namespace Go.Proofs.Z
open Go Go.Ev Edict
def EW(u:U)(h:H):Prop:=0<h.size/\1<h.size/\hsz h 0=7/\hsz h 1=12/\7<=u 0/\12<=u 1/\(∀i,i<7->hv h 0 i=str (opF i))/\ ∀i,i<12->hv h 1 i=str (Wi i)
theorem EW.mono{u u':U}{h h':H}(k:EW u h)(g:Ge u h u' h'):EW u' h':=by
 obtain⟨a,b,c,d,e,f,m,n⟩:=k
 obtain⟨g1,g2,g3,g4⟩:=g
 exact⟨by omega,by omega,(g3 _ a).1.trans c,(g3 _ b).1.trans d,aY e (g2 _ a),aY f (g2 _ b),λi hi=>(g4 _ a _ (by omega)).trans (m i hi),λi hi=>(g4 _ b _ (by omega)).trans (n i hi)⟩
def Pz(vs:List Value)(h:H)(K:Value->H->Prop):Prop:= ∃(u:U) (w:List UInt8) (k:Int) (v:List UInt8) (n p o e:Int) (stop wide:Prop),vs=[str w,.agg (lK (k,v,n,p,o,e)).toArray]/\SpK w k v n p stop wide/\w≠[]/\w.length<=65536/\EW u h/\ ∀u' h',kG S0 u h u' h'->K (.bool true) h'
def TH:mG:=λf vs h K _=>(f=104/\Cc uJ vs h K)\/(f=105/\Cc qB vs h K)\/(f=119/\MJ vs h K)\/(f=120/\PN vs h K)
theorem Js:nz Tryz.prog TH:=mK tN (mK Ba (mK GX (qd PO)))
theorem PE{vs:List Value}{h:H}{K:Value->H->Prop}{KP:List PanicEntry->H->Prop}(hC:Pz vs h K):ma Tryz.prog 103 vs h K KP:=by
 obtain⟨u,w,k,v,n,p,o,e,stop,wide,rfl,hs,hw,hwl,hG,hK⟩:=hC
 refine kP 91366155972153444357931315272618332372032555003 [(none,(.t 4))] Js Tryz.func103 (by kernel_rfl) (by conv=>lhs;cbv;try simp only[mF]) ?_
 have hw0:=au hw
 have hl:0<w.length:=fO.2 hw
 have p1:=kG.qZ S0 u h #[.int .i64 k,str v,.int .i64 n,.int .i64 p,.int .i64 o,.int .i64 e] 177
 have B1:=kV.new (u:=u) (h:=h) [.int .i64 k,str v,.int .i64 n,.int .i64 p,.int .i64 o,.int .i64 e] 177
 obtain⟨h1,hh1⟩:=kJ (h.push (.cells #[.int .i64 k,str v,.int .i64 n,.int .i64 p,.int .i64 o,.int .i64 e] 177))
 rw[<-hh1]at p1
 have B1:kV (ub u h.size 0) h1 h.size [.int .i64 k,str v,.int .i64 n,.int .i64 p,.int .i64 o,.int .i64 e]:=by rw[hh1];exact B1
 obtain⟨b,hb⟩:=kJ h.size
 obtain⟨g1,g2,g3,g4,-,-,g5,g6⟩:=hG.mono p1.ge
 have hK:=hK _ _ p1
 rw[<-hb]at B1
 have B11:=B1.1
 simp only[lK]
 simp(disch:=first|omega|simp only[zz];try omega;done) only[↓reduceIte,go_sem]
 rw[<-hh1,<-hb]
 clear hh1 p1 hb hG
 obtain⟨c0,hc0⟩:=kJ (kS w 0)
 rcases hs with⟨hk,hv,rfl,rfl,h64,hall,hdg,hlo,hnot,-⟩|⟨rfl,rfl,rfl,⟨neg,d,hwd,hdn,hdd,hpi⟩,-⟩|⟨rfl,rfl,rfl,hv5,hq,ht⟩|⟨h5,h10,rfl,rfl,rfl,hm,-⟩|⟨rfl,rfl,rfl,hp1,hp6,hm,-⟩
 ·subst hv
  obtain⟨I,hI⟩:=kJ (α:=Nat->lm->H->Prop) λi σ h'=>σ 0=str v/\σ 3= .pointer (some ⟨b,0,none⟩)/\σ 5= .int .i64 i/\h'=h1/\i<=v.length
  rcases hk with rfl|rfl
  all_goals
   simp(disch:=first|omega|simp only[zz];try omega;done) only[↓reduceIte,go_sem,hw0]
   refine kH I (λi=>v.length - i) 0 (by rw[hI];exact⟨by simp [kF],by simp [kF],by simp [kF],rfl,by omega⟩) ?_
   intro i σ h' hi
   rw[hI]at hi
   obtain⟨e0,e3,e5,rfl,hi⟩:=hi
   by_cases hlt:i<v.length
   ·simp(disch:=first|omega|simp only[zz];try omega;done) only[↓reduceIte,go_sem,e0,e5,af (show(i:Int)<v.length by omega),mE]
    refine kD (.inl ⟨rfl,_,rfl,⟨kY,?_⟩⟩)
    rw[hall i hlt]
    simp(disch:=first|omega|simp only[zz];try omega;done) only[↓reduceIte,go_sem,e5]
    exact⟨i+1,by rw[hI];exact⟨by simp [kF,e0],by simp [kF,e3],by simp [kF],rfl,hlt⟩,by omega⟩
   ·simp(disch:=first|omega|simp only[zz];try omega;done) only[↓reduceIte,go_sem,e0,e3,e5,au (show¬(i:Int)<v.length by omega),B1.at,B1.2.1,af (show(0:Int)<v.length by omega),af (show(v.length:Int)<=64 by omega),mE]
    refine kD (.inr (.inl ⟨rfl,_,rfl,⟨kY,?_⟩⟩))
    rw[hdg]
    have el:(decide ((97:Int)<=(kS v 0:Int)) && decide ((kS v 0:Int)<=122))=Pw (kS v 0):=by unfold Pw;apply dm.2;simp;omega
    rw[el]
    first
     |(rw[show Pw (kS v 0)=true from hlo.2 rfl])
     |(rw[show Pw (kS v 0)=false by cases q:Pw (kS v 0);rfl;exact absurd (hlo.1 q) (by decide)])
    simp(disch:=first|omega|simp only[zz];try omega;done) only[↓reduceIte,go_sem,e0,e3,B1.at,B1.2.1,au hnot]
    exact hK
 ·have hd0:0<d.length:=fO.2 hdn
  have dg: ∀i,i<d.length->qB (kS d i)=true:=λi hi=>by
   have:=hdd (d[i]) (by simp)
   unfold kS;rw[aO,aL hi];exact this
  have hlen:w.length=d.length+if neg=true then 1 else 0:=by rw[hwd];cases neg<;>simp [uO]
  have hb0:kS w 0=45↔neg=true:=by
   rw[hwd]
   cases neg with
   |true=>simp [uO,kS]
   |false=>
    have:=dg 0 hd0
    unfold qB at this
    simp at this
    simp [uO];omega
  have hbi: ∀i,i<d.length->kS w (i+if neg=true then 1 else 0)=kS d i:=λi hi=>by
   rw[hwd]
   cases neg with
   |true=>simp [uO,kS]
   |false=>simp [uO]
  obtain⟨m,hm⟩:=kJ (if neg=true then 1 else 0)
  rw[<-hm]at hlen
  simp only[<-hm]at hbi
  obtain⟨I,hI⟩:=kJ (α:=Nat->lm->H->Prop) λi σ h'=>σ 0=str w/\σ 3= .pointer (some ⟨b,0,none⟩)/\σ 7= .int .i64 m/\σ 8= .int .i64 (m+i:Nat)/\h'=h1/\i<=d.length
  have c45:((kS w 0:Int)=45)=(neg=true):=propext (by constructor<;>intro q;exact hb0.1 (by omega);have:=hb0.2 q;omega)
  have hpi:=hpi
  simp(disch:=first|omega|simp only[zz];try omega;done) only[↓reduceIte,go_sem,hw0,af (show(0:Int)<w.length by omega),mE,c45]
  refine⟨λq=> ?_,λq=> ?_⟩
  all_goals
   have hm1:=hm
   first|rw[ay q]at hm1|rw[q,ah (by decide)]at hm1
   refine kH I (λi=>d.length - i) 0 (by rw[hI,hm1];exact⟨by simp [kF],by simp [kF],by simp [kF],by simp [kF],rfl,by omega⟩) ?_
   intro i σ h' hi
   rw[hI]at hi
   obtain⟨e0,e3,e7,e8,rfl,hi⟩:=hi
   by_cases hlt:i<d.length
   ·have hbw:=hbi i hlt
    rw[Nat.add_comm]at hbw
    simp(disch:=first|omega|simp only[zz];try omega;done) only[↓reduceIte,go_sem,e0,e8,af (show m+i<w.length by omega),mE]
    refine kD (.inr (.inl ⟨rfl,_,rfl,⟨kY,?_⟩⟩))
    rw[hbw,dg i hlt]
    simp(disch:=first|omega|simp only[zz];try omega;done) only[↓reduceIte,go_sem,e8]
    exact⟨i+1,by rw[hI];exact⟨by simp [kF,e0],by simp [kF,e3],by simp [kF,e7],by simp [kF];omega,rfl,hlt⟩,by omega⟩
   ·simp(disch:=first|omega|simp only[zz];try omega;done) only[↓reduceIte,go_sem,e0,e7,e8,au (show¬m+i<w.length by omega),au (show¬(w.length:Int)=m by omega)]
    refine kD (.inr (.inr (.inl ⟨rfl,neg,d,by rw[hwd],hdn,hdd,by omega,λx hx=>⟨kY,?_⟩,λhx=>by rw[hpi]at hx;cases hx⟩)))
    rw[hpi]at hx
    cases hx
    simp(disch:=first|omega|simp only[zz];try omega;done) only[↓reduceIte,go_sem,e3,B1.at,B1.2.1]
    exact hK
 ·simp(disch:=first|omega|simp only[zz];try omega;done) only[↓reduceIte,go_sem,hw0,af (show(v.length:Int)<=255 by omega)]
  refine kD (.inr (.inr (.inr ⟨rfl,w,v,rfl,hwl,hv5,hq,ht,⟨kY,?_⟩⟩)))
  simp(disch:=first|omega|simp only[zz];try omega;done) only[↓reduceIte,go_sem,Vs]
  exact hK
 ·have hk6:k=5\/k=6\/k=7\/k=8\/k=9\/k=10:=by omega
  rcases hk6 with rfl|rfl|rfl|rfl|rfl|rfl
  ·have hx:Go.Ev.hv h1 1 5=str w:=by rw[hm];exact g6 5 (by decide)
   simp(disch:=first|omega|simp only[zz];try omega;done) only[↓reduceIte,go_sem,hw0,g4,hx]
   exact hK
  ·have hx:Go.Ev.hv h1 1 6=str w:=by rw[hm];exact g6 6 (by decide)
   simp(disch:=first|omega|simp only[zz];try omega;done) only[↓reduceIte,go_sem,hw0,g4,hx]
   exact hK
  ·have hx:Go.Ev.hv h1 1 7=str w:=by rw[hm];exact g6 7 (by decide)
   simp(disch:=first|omega|simp only[zz];try omega;done) only[↓reduceIte,go_sem,hw0,g4,hx]
   exact hK
  ·have hx:Go.Ev.hv h1 1 8=str w:=by rw[hm];exact g6 8 (by decide)
   simp(disch:=first|omega|simp only[zz];try omega;done) only[↓reduceIte,go_sem,hw0,g4,hx]
   exact hK
  ·have hx:Go.Ev.hv h1 1 9=str w:=by rw[hm];exact g6 9 (by decide)
   simp(disch:=first|omega|simp only[zz];try omega;done) only[↓reduceIte,go_sem,hw0,g4,hx]
   exact hK
  ·have hx:Go.Ev.hv h1 1 10=str w:=by rw[hm];exact g6 10 (by decide)
   simp(disch:=first|omega|simp only[zz];try omega;done) only[↓reduceIte,go_sem,hw0,g4,hx]
   exact hK
 ·have hp6':p=1\/p=2\/p=3\/p=4\/p=5\/p=6:=by omega
  rcases hp6' with rfl|rfl|rfl|rfl|rfl|rfl
  ·have hx:Go.Ev.hv h1 0 1=str w:=by rw[hm];exact g5 1 (by decide)
   simp(disch:=first|omega|simp only[zz];try omega;done) only[↓reduceIte,go_sem,hw0,g3,hx]
   exact hK
  ·have hx:Go.Ev.hv h1 0 2=str w:=by rw[hm];exact g5 2 (by decide)
   simp(disch:=first|omega|simp only[zz];try omega;done) only[↓reduceIte,go_sem,hw0,g3,hx]
   exact hK
  ·have hx:Go.Ev.hv h1 0 3=str w:=by rw[hm];exact g5 3 (by decide)
   simp(disch:=first|omega|simp only[zz];try omega;done) only[↓reduceIte,go_sem,hw0,g3,hx]
   exact hK
  ·have hx:Go.Ev.hv h1 0 4=str w:=by rw[hm];exact g5 4 (by decide)
   simp(disch:=first|omega|simp only[zz];try omega;done) only[↓reduceIte,go_sem,hw0,g3,hx]
   exact hK
  ·have hx:Go.Ev.hv h1 0 5=str w:=by rw[hm];exact g5 5 (by decide)
   simp(disch:=first|omega|simp only[zz];try omega;done) only[↓reduceIte,go_sem,hw0,g3,hx]
   exact hK
  ·have hx:Go.Ev.hv h1 0 6=str w:=by rw[hm];exact g5 6 (by decide)
   simp(disch:=first|omega|simp only[zz];try omega;done) only[↓reduceIte,go_sem,hw0,g3,hx]
   exact hK
end Go.Proofs.Z
namespace Edict
theorem SpK.stop{w:List UInt8}{k:Int}{v:List UInt8}{n p:Int}{stop wide:Prop}(h:SpK w k v n p stop wide):(k<=3\/k=10->stop)/\(k=11->(p=3\/p=5)->wide)/\k≠0:=by
 rcases h with⟨hk,-,-,-,-,-,-,-,-,q⟩|⟨rfl,-,-,-,q⟩|⟨rfl,-⟩|⟨h5,h10,-,-,-,-,q⟩|⟨rfl,-,-,-,-,-,q⟩
 ·exact⟨λ_=>q,λe=>by omega,by omega⟩
 ·exact⟨λ_=>q,λe=>by omega,by omega⟩
 ·exact⟨λe=>by omega,λe=>by omega,by omega⟩
 ·exact⟨λe=>q (by omega),λe=>by omega,by omega⟩
 ·exact⟨λe=>by omega,λ_=>q,by omega⟩
theorem ab7{s:List UInt8}{a:Nat}{t:Tok}(h:oo s a= .ok t):(nK s a).2=true/\wT s (nK s a).1= .ok t:=by
 unfold oo at h
 split at h
 ·rename_i q;exact⟨q,h⟩
 ·cases h
end Edict
namespace Go.Proofs.Z
open Go Go.Ev Edict
def aeC(vs:List Value)(h:H)(K:Value->H->Prop):Prop:= ∃(u:U) (s:List UInt8) (v:Value) (L:List Edict.Tok) (f:Int×Nat),vs=[str s,v]/\s.length<=65536/\mo s 0=(L,f)/\kM u h v L/\EW u h/\ ∀u' h' (a:Nat),kG S0 u h u' h'->a<=s.length->(f.1≠0->oo s a= .bad f.1 f.2)->K (.tuple #[.bool true,.int .i64 a]) h'
def aeb:mG:=λf vs h K _=>(f=102/\TM vs h K)\/(f=103/\Pz vs h K)\/(f=104/\Cc uJ vs h K)
theorem Va:nz Tryz.prog aeb:=mK Kj (mK PE (qd tN))
theorem ab8{vs:List Value}{h:H}{K:Value->H->Prop}{KP:List PanicEntry->H->Prop}(hC:aeC vs h K):ma Tryz.prog 79 vs h K KP:=by
 obtain⟨u,s,v,L,f,rfl,hs,hL,iv,hG,hK⟩:=hC
 refine kP 680569926220439504347212843541862612979 [(none,(.t 4)),(none,(.t 5))] Va Tryz.func79 (by kernel_rfl) (by apply c0 rfl;repeat' first|apply cS|apply cK|apply cL|apply cX|(apply cC (by decide))|with_reducible exact cV 10 (.sts [(zg 5 (.t 8)),(zh (zf 5 (.t 8))),(zg 4 (.t 8)),(zh (zf 4 (.t 8))),(zq .leq (zl (zf 5 (.t 8))) (zl (zf 4 (.t 8)))),(.chk [((zb .leq (zl (zf 5 (.t 8))) (zl (zf 4 (.t 8)))),false)] (.c1 (.fld 5) (.t 8))),(.chk [((zb .leq (zl (zf 5 (.t 8))) (zl (zf 4 (.t 8)))),false)] (.c1 .ld1 (zf 5 (.t 8)))),(.chk [((zb .leq (zl (zf 5 (.t 8))) (zl (zf 4 (.t 8)))),false)] (.c1 .lens (.t 0))),(.chk [((zb .leq (zl (zf 5 (.t 8))) (zl (zf 4 (.t 8)))),false)] (.c2 (.bin .gtr) (zl (zf 5 (.t 8))) (.o1 .lens (.t 0)))),(.chk [] (.c3 .pick (zb .leq (zl (zf 5 (.t 8))) (zl (zf 4 (.t 8)))) (.c (.bool true)) (zb .gtr (zl (zf 5 (.t 8))) (.o1 .lens (.t 0))))),(.chk [((.o3 .pick (zb .leq (zl (zf 5 (.t 8))) (zl (zf 4 (.t 8)))) (.c (.bool true)) (zb .gtr (zl (zf 5 (.t 8))) (.o1 .lens (.t 0)))),false)] (.c1 (.fld 4) (.t 8))),(.chk [((.o3 .pick (zb .leq (zl (zf 5 (.t 8))) (zl (zf 4 (.t 8)))) (.c (.bool true)) (zb .gtr (zl (zf 5 (.t 8))) (.o1 .lens (.t 0)))),false)] (.c1 .ld1 (zf 4 (.t 8)))),(.chk [((.o3 .pick (zb .leq (zl (zf 5 (.t 8))) (zl (zf 4 (.t 8)))) (.c (.bool true)) (zb .gtr (zl (zf 5 (.t 8))) (.o1 .lens (.t 0)))),false)] (.c1 (.fld 5) (.t 8))),(.chk [((.o3 .pick (zb .leq (zl (zf 5 (.t 8))) (zl (zf 4 (.t 8)))) (.c (.bool true)) (zb .gtr (zl (zf 5 (.t 8))) (.o1 .lens (.t 0)))),false)] (.c1 .ld1 (zf 5 (.t 8)))),(.chk [((.o3 .pick (zb .leq (zl (zf 5 (.t 8))) (zl (zf 4 (.t 8)))) (.c (.bool true)) (zb .gtr (zl (zf 5 (.t 8))) (.o1 .lens (.t 0)))),false)] (.c3 .sub (.t 0) (zl (zf 4 (.t 8))) (zl (zf 5 (.t 8))))),(.chk [((.o3 .pick (zb .leq (zl (zf 5 (.t 8))) (zl (zf 4 (.t 8)))) (.c (.bool true)) (zb .gtr (zl (zf 5 (.t 8))) (.o1 .lens (.t 0)))),false)] (.c1 (.ldn 6) (.t 8))),(.set 88 (.o1 (.ldn 6) (.t 8))),(.set 87 (.o3 .sub (.t 0) (zl (zf 4 (.t 8))) (zl (zf 5 (.t 8))))),(.set 81 (.o3 .pick (zb .leq (zl (zf 5 (.t 8))) (zl (zf 4 (.t 8)))) (.c (.bool true)) (zb .gtr (zl (zf 5 (.t 8))) (.o1 .lens (.t 0))))),(.set 74 (zb .leq (zl (zf 5 (.t 8))) (zl (zf 4 (.t 8))))),(.eff [((.t 81),false)] (some 89) (.call 103) [(.t 87),(.t 88)] []),(.chk [((.t 81),false)] (.c1 .not (.t 89))),(.chk [] (.c3 .pick (.t 81) (.c (.bool true)) (.o1 .not (.t 89)))),(.set 91 (.o3 .pick (.t 81) (.c (.bool true)) (.o1 .not (.t 89))))]) (by kernel_rfl)|(conv=>lhs;cbv;try simp only[mF])) ?_
 obtain⟨ta,tc,rfl,-,-⟩:=iv.sl
 have hlen:L.length<=65537:=by have:=Dz (s:=s) (k:=0) (az _);rw[hL]at this;simp only at this;omega
 simp(disch:=first|omega|simp only[zz];try omega;done) only[↓reduceIte,go_sem]
 obtain⟨I,hI⟩:=kJ (α:=Nat->lm->H->Prop) λk σ h'=> ∃(u':U) (a:Nat),σ 0=str s/\σ 6= .int .i64 a/\σ 1= .slice ta L.length tc/\σ 12= .slice ta L.length tc/\σ 13= .int .i64 L.length/\σ 14= .int .i64 k/\a<=s.length/\k<=L.length/\kG S0 u h u' h'/\mo s a=(L.drop k,f)
 refine kH I (λk=>L.length - k) 0 (by rw[hI];exact⟨u,0,by simp [kF],by simp [kF],by simp [kF],by simp [kF],by simp [kF],by simp [kF],by omega,by omega,kG.refl _ _ _,by rw[eU];exact hL⟩) ?_
 intro k σ h' hi
 rw[hI]at hi
 obtain⟨u',a,e0,e6,e1,e12,e13,e14,ha,hk,st,hsc⟩:=hi
 by_cases hlt:k<L.length
 case neg=>
  rw[dJ (by omega)]at hsc
  obtain⟨c,p⟩:=f
  simp(disch:=first|omega|simp only[zz];try omega;done) only[↓reduceIte,go_sem,e6,e13,e14,au (show¬(k:Int)<L.length by omega)]
  exact hK _ _ a st ha λ_=>Qj hsc
 obtain⟨x,hx⟩:=uu hlt
 obtain⟨r,hr⟩: ∃r,L.drop k=x::r:=⟨L.drop (k+1),by rw[bK hlt];congr 1;rw[aL hlt]at hx;exact bu hx⟩
 have hr1:=(mI hr).2.2
 rw[hr]at hsc
 obtain⟨hn,hrest⟩:=Dy ha hsc
 obtain⟨hg,ht⟩:=ab7 hn
 have iw:=iv.mono st.ge
 obtain⟨pb,po,rfl,hpb,hpu,hpz,hpr⟩:=iw.row k x hx
 rw[mJ]at hpr
 simp only[lK,Bi,El,aG,aP]at hpr hpu hpz
 obtain⟨p0,p1,p2,p3,p4,p5⟩:=hpr
 obtain⟨h5',h6,u6,hh5,hh6,B5,B6,s6,hz6⟩:=kZ u' h' [.int .i64 0,str [],.int .i64 0,.int .i64 0,.int .i64 0,.int .i64 0] (lK x) 177 rfl
 simp only[lK]at hh6 B6
 have st6:=st.tZ s6
 have B51:=B5.1
 have B61:=B6.1
 simp(disch:=first|omega|simp only[zz];try omega;done) only[↓reduceIte,go_sem,e0,e6,e12,e13,e14,af (show(k:Int)<(L.length:Nat) by omega),p0,p1,p2,p3,p4,p5,<-hh5,<-hh6,B5.2.1,B5.2.2.1]
 refine kD (.inl ⟨rfl,s,a,rfl,ha,hs,⟨kY,?_⟩⟩)
 rw[hg]
 obtain⟨o,ho⟩:=kJ ((nK s a).1)
 have hos:o<=s.length:=by rw[ho];exact yQ ha
 rw[<-ho]at ht ⊢
 by_cases Et:x.1=0
 ·obtain⟨c,w,n,p,e,rfl,q1,q2,-⟩:=aaG hos ht
  obtain⟨q3,q4,rfl,rfl,rfl⟩:=q2 Et
  rcases hrest with⟨-,hr0,hf⟩|⟨q,-⟩
  ·have hkl:k=L.length - 1:=by rw[hr0]at hr;have:=bL List.length hr;simp at this;omega
   simp only at Et
   subst Et q3 q4
   simp(disch:=first|omega|simp only[zz];try omega;done) only[↓reduceIte,go_sem,e0,e1,B6.at,B6.2.1,af (show(k:Int)=(L.length:Int) - 1 by omega)]
   exact hK _ _ _ st6 hos λq=>by rw[hf]at q;exact absurd rfl q
  ·exact absurd Et q
 rcases hrest with⟨q,-⟩|⟨-,hsc2⟩
 ·exact absurd q Et
 have hol:o<s.length:=by
  apply bR;intro q
  rw[show wT s o= .ok (0,[],0,0,(o:Int),(o:Int)) by unfold wT;rw[ay (by omega)]]at ht
  cases ht;exact Et rfl
 obtain⟨kk,w,n,p,e,rfl,q1,q2,hsp⟩:=KH hol ht
 obtain⟨z1,z2,-⟩:=hsp.stop
 simp only at Et p0 p1 p2 p3 p4 p5 hsc2 B6 hh6
 have hsub:(sub s o e).length=e - o:=tJ q2
 simp(disch:=first|omega|simp only[zz];try omega;done) only[↓reduceIte,go_sem,e0,B6.at,B6.2.1,au Et,au (show¬(e:Int)<=(o:Int) by omega),au (show¬(s.length:Int)<(e:Int) by omega),af (show o<=e by omega),af q2]
 refine kD (.inr (.inl ⟨rfl,u6,sub s o e,kk,w,n,p,o,e,_,_,rfl,hsp,λq=>by rw[q]at hsub;simp at hsub;omega,by omega,hG.mono st6.ge,λu7 h7 s7=>⟨kY,?_⟩⟩))
 have B7:=B6.sZ s7
 have B71:=B7.1
 have st7:=st6.tZ s7
 have hsc3:mo s e=(r,f):=hsc2
 have fin: ∀σ':lm,σ' 0=str s->σ' 6= .int .i64 e->σ' 1= .slice (some ⟨pb,po,none⟩) L.length tc->σ' 12= .slice (some ⟨pb,po,none⟩) L.length tc->σ' 13= .int .i64 L.length->σ' 14= .int .i64 ((k+1:Nat):Int)->I (k+1) σ' h7:=λσ' a0 a6 a1 a12 a13 a14=>by
  rw[hI];exact⟨u7,e,a0,a6,a1,a12,a13,a14,q2,hlt,st7,by rw[hr1];exact hsc3⟩
 by_cases hel:e<s.length
 case neg=>
  simp(disch:=first|omega|simp only[zz];try omega;done) only[↓reduceIte,go_sem,e0,e14,B7.at,B7.2.1,au hel]
  exact⟨k+1,fin _ (by simp [kF,e0]) (by simp [kF]) (by simp [kF,e1]) (by simp [kF,e12]) (by simp [kF,e13]) (by simp [kF]),by omega⟩
 obtain⟨c,hc⟩:=kJ (kS s e)
 have hst:kk<=3\/kk=10->uJ c=false:=λq=>by have:=z1 q;cases hw:uJ c with|false=>rfl|true=>exact absurd ⟨hel,by rw[<-hc];exact hw⟩ this
 have hwi:kk=11->(p=3\/p=5)-> ¬(c:Int)=61:=λa b q=>(z2 a b) ⟨hel,by rw[<-hc];omega⟩
 clear z1 z2 hsp hn hsc hsc2
 by_cases k3:kk<=3
 ·simp(disch:=first|omega|simp only[zz];try omega;done) only[↓reduceIte,go_sem,e0,B7.at,B7.2.1,af hel,mE,<-hc,af k3]
  refine kD (.inr (.inr ⟨rfl,_,rfl,⟨kY,?_⟩⟩))
  rw[hst (.inl k3)]
  simp(disch:=first|omega|simp only[zz];try omega;done) only[↓reduceIte,go_sem,e14,B7.at,B7.2.1,au (show¬kk=11 by omega)]
  exact⟨k+1,fin _ (by simp [kF,e0]) (by simp [kF]) (by simp [kF,e1]) (by simp [kF,e12]) (by simp [kF,e13]) (by simp [kF]),by omega⟩
 by_cases k10:kk=10
 ·simp(disch:=first|omega|simp only[zz];try omega;done) only[↓reduceIte,go_sem,e0,B7.at,B7.2.1,af hel,mE,<-hc,au k3,af k10]
  refine kD (.inr (.inr ⟨rfl,_,rfl,⟨kY,?_⟩⟩))
  rw[hst (.inr k10)]
  simp(disch:=first|omega|simp only[zz];try omega;done) only[↓reduceIte,go_sem,e14,B7.at,B7.2.1,au (show¬kk=11 by omega)]
  exact⟨k+1,fin _ (by simp [kF,e0]) (by simp [kF]) (by simp [kF,e1]) (by simp [kF,e12]) (by simp [kF,e13]) (by simp [kF]),by omega⟩
 by_cases k11:kk=11
 case neg=>
  simp(disch:=first|omega|simp only[zz];try omega;done) only[↓reduceIte,go_sem,e0,e14,B7.at,B7.2.1,af hel,mE,<-hc,au k3,au k10,au k11]
  exact⟨k+1,fin _ (by simp [kF,e0]) (by simp [kF]) (by simp [kF,e1]) (by simp [kF,e12]) (by simp [kF,e13]) (by simp [kF]),by omega⟩
 by_cases p3':p=3
 ·simp(disch:=first|omega|simp only[zz];try omega;done) only[↓reduceIte,go_sem,e0,e14,B7.at,B7.2.1,af hel,mE,<-hc,au k3,au k10,af k11,af p3',au (hwi k11 (.inl p3'))]
  exact⟨k+1,fin _ (by simp [kF,e0]) (by simp [kF]) (by simp [kF,e1]) (by simp [kF,e12]) (by simp [kF,e13]) (by simp [kF]),by omega⟩
 by_cases p5':p=5
 ·simp(disch:=first|omega|simp only[zz];try omega;done) only[↓reduceIte,go_sem,e0,e14,B7.at,B7.2.1,af hel,mE,<-hc,au k3,au k10,af k11,au p3',af p5',au (hwi k11 (.inr p5'))]
  exact⟨k+1,fin _ (by simp [kF,e0]) (by simp [kF]) (by simp [kF,e1]) (by simp [kF,e12]) (by simp [kF,e13]) (by simp [kF]),by omega⟩
 ·simp(disch:=first|omega|simp only[zz];try omega;done) only[↓reduceIte,go_sem,e0,e14,B7.at,B7.2.1,af hel,mE,<-hc,au k3,au k10,af k11,au p3',au p5']
  exact⟨k+1,fin _ (by simp [kF,e0]) (by simp [kF]) (by simp [kF,e1]) (by simp [kF,e12]) (by simp [kF,e13]) (by simp [kF]),by omega⟩
end Go.Proofs.Z
namespace Go.Ev
open Go Rep
theorem kG.own{S:Nat->Prop}{u u1 u2:U}{h h1 h2:H}(s:kG S0 u h u1 h1)(t:kG S u1 h1 u2 h2)(hn: ∀j,S j->h.size<=j):kG S0 u h u2 h2:=s.trans t (λj hj e=>absurd (hn j e) (by omega))
end Go.Ev
namespace Go.Proofs.Z
open Go Go.Ev Edict
variable {vs:List Value} {h:H} {K:Value->H->Prop} {KP:List PanicEntry->H->Prop}
theorem tY{u u':U}{h h':H}{K:Value->H->Prop}{b:Nat}{x y z:Value}(l0 l1 l2:Value)(st:kG S0 u h u' h')(B:kV u' h' b [x,y,z])(hb:h.size<=b)(hK: ∀u' h',kG S0 u h u' h'->K (.agg #[l0,l1,l2]) h'):
  kV u' (kU h' b 0 [l0,l1,l2]) b [l0,l1,l2]/\K (.agg #[l0,l1,l2]) (kU h' b 0 [l0,l1,l2]):=
 ⟨B.sets rfl,hK _ _ (st.rZ (b:=b) (o:=0) (l:=[l0,l1,l2]) (.inl hb) (by rw[B.2.2.2.1];exact az _) (by rw[B.2.1];exact aH _))⟩
theorem sJ(u:U)(h:H): ∃(h1:H) (u1:U),h1=h.push (.cells #[.int .i64 0,.int .i64 0,.int .i64 0] 44)/\h1.size=h.size+1/\kG S0 u h u1 h1/\kV u1 h1 h.size [.int .i64 0,.int .i64 0,.int .i64 0]:=
 ⟨_,ub u h.size 0,rfl,by simp,kG.qZ S0 u h #[.int .i64 0,.int .i64 0,.int .i64 0] 44,kV.new (u:=u) (h:=h) [.int .i64 0,.int .i64 0,.int .i64 0] 44⟩
def Lt(P:List UInt8->Nat->Int->Nat->Prop)(vs:List Value)(h:H)(K:Value->H->Prop):Prop:= ∃(u:U) (s:List UInt8) (k:Nat) (c:Int) (p:Nat),vs=[str s,.int .i64 k]/\s.length<=65536/\P s k c p/\ ∀u' h',kG S0 u h u' h'->K (.agg (kT c p).toArray) h'
def aeA(s:List UInt8)(k:Nat)(c:Int)(p:Nat):Prop:=k<s.length/\qB (kS s (mh s k))=true/\uk s k (mh s k)= .bad c p
def NZ:mG:=λf vs h K _=>(f=104/\Cc uJ vs h K)\/(f=105/\Cc qB vs h K)\/(f=119/\MJ vs h K)
theorem Fq:nz Tryz.prog NZ:=mK tN (mK Ba (qd GX))
theorem JL(hC:Lt aeA vs h K):ma Tryz.prog 106 vs h K KP:=by
 obtain⟨u,s,o,c,p,rfl,hs,⟨ho,hd,hx⟩,hK⟩:=hC
 refine kP 274895208627 [((some (.c1 (.ldn 3) (.t 4))),(.o1 (.ldn 3) (.t 4)))] Fq Tryz.func106 (by kernel_rfl) (by conv=>lhs;cbv;try simp only[mF]) ?_
 obtain⟨h1,u1,hh1,zh,p1,B⟩:=sJ u h
 have B1:=B.1
 have hcp:c=13/\p=o:=by
  unfold uk at hx
  repeat' split at hx
  all_goals first|(cases hx;done)|(cases hx;exact⟨rfl,rfl⟩)
 obtain⟨rfl,rfl⟩:=hcp
 have hf:mh s p=p\/mh s p=p+1:=by unfold mh;split<;>simp
 have hfl:mh s p<s.length:=eY λq=>by rw[si q]at hd;simp [qB]at hd
 have hrun:nG s (mh s p)=nG s (p+1):=by
  rcases hf with e|e
  ·rw[e];exact xN (by omega) (by rw[e]at hd;unfold uJ;rw[hd];rfl)
  ·rw[e]
 have hle:nG s (p+1)<=s.length:=uQ s (p+1) (by omega)
 obtain⟨w,hK'⟩:=tY (.int .i64 13) (.int .i64 0) (.int .i64 p) p1 B (aH _) (λu' h' q=>hK u' h' q)
 obtain⟨I,hI⟩:=kJ (α:=Nat->lm->H->Prop) λe σ h'=>σ 0=str s/\σ 1= .int .i64 p/\σ 4= .pointer (some ⟨h.size,0,none⟩)/\σ 5= .int .i64 e/\h'=h1/\p+1<=e/\e<=s.length/\nG s e=nG s (p+1)/\ ∀i,p+1<=i->i<e->qB (kS s i)=true
 simp(disch:=first|omega|simp only[zz];try omega;done) only[↓reduceIte,go_sem,<-hh1]
 refine kH I (λe=>s.length - e) (p+1) (by rw[hI];exact⟨by simp [kF],by simp [kF],by simp [kF],by simp [kF],rfl,by omega,by omega,rfl,λi a b=>by omega⟩) ?_
 intro e σ h' hi
 rw[hI]at hi
 obtain⟨e0,e1,e4,e5,rfl,hpe,hes,hre,hdi⟩:=hi
 have out:nG s (p+1)=e->rX (Dk s p) (sub s (mh s p) e)=none/\(s.take e).drop p=uO (Dk s p)++sub s (mh s p) e/\sub s (mh s p) e≠[]/\(∀c∈sub s (mh s p) e,qB c.toNat=true):=λq=>by
  have hfe:mh s p<e:=by
   have:=vK hfl (by unfold uJ;rw[hd];rfl)
   omega
  have hall:wR s (mh s p) (nG s (mh s p))=true:=by
   rw[hrun,q,wQ hes]
   intro i a b
   by_cases hi:p+1<=i
   ·exact hdi i hi b
   ·have:i=mh s p:=by omega
    rw[this];exact hd
  rw[Tx hall,hrun,q]at hx
  refine⟨?_,Ms (by omega) hes ho,λq2=> ?_,λc hc=> ?_⟩
  ·cases hv:rX (Dk s p) (sub s (mh s p) e)with
   |none=>rfl
   |some v=>rw[hv]at hx;cases hx
  ·have:=bL List.length q2;rw[tJ hes]at this;simp at this;omega
  ·rw[hrun,q]at hall;unfold wR at hall;exact bU.1 hall c hc
 by_cases hlt:e<s.length
 ·cases hw:uJ (kS s e)with
  |true=>
   simp(disch:=first|omega|simp only[zz];try omega;done) only[↓reduceIte,go_sem,e0,e5,af (show(e:Int)<s.length by omega),mE]
   refine kD (.inl ⟨rfl,_,rfl,⟨kY,?_⟩⟩)
   rw[hw]
   simp(disch:=first|omega|simp only[zz];try omega;done) only[↓reduceIte,go_sem,e0,e5,af hlt,mE]
   refine kD (.inr (.inl ⟨rfl,_,rfl,⟨kY,?_⟩⟩))
   cases hdd:qB (kS s e)with
   |true=>
    simp(disch:=first|omega|simp only[zz];try omega;done) only[↓reduceIte,go_sem,e5]
    exact⟨e+1,by rw[hI];exact⟨by simp [kF,e0],by simp [kF,e1],by simp [kF,e4],by simp [kF],rfl,by omega,hlt,(xN hlt hw).symm.trans hre,λi a b=>by
     by_cases hie:i=e
     ·rw[hie];exact hdd
     ·exact hdi i a (by omega)⟩,by omega⟩
   |false=>
    simp(disch:=first|omega|simp only[zz];try omega;done) only[↓reduceIte,go_sem,e1,e4,B.2.1,B.2.2.1,w.at,w.2.1]
    exact hK'
  |false=>
   rw[tq (by rw[hw];simp)]at hre
   obtain⟨o1,o2,o3,o4⟩:=out hre.symm
   simp(disch:=first|omega|simp only[zz];try omega;done) only[↓reduceIte,go_sem,e0,e5,af (show(e:Int)<s.length by omega),mE]
   refine kD (.inl ⟨rfl,_,rfl,⟨kY,?_⟩⟩)
   rw[hw]
   simp(disch:=first|omega|simp only[zz];try omega;done) only[↓reduceIte,go_sem,e0,e1,e5,af (show p<=e by omega),af hes]
   refine kD (.inr (.inr ⟨rfl,Dk s p,sub s (mh s p) e,by rw[o2],o3,o4,by rw[tJ hes];omega,λn q=>(by rw[o1]at q;cases q),λ_ n=>⟨kY,?_⟩⟩))
   simp(disch:=first|omega|simp only[zz];try omega;done) only[↓reduceIte,go_sem,e1,e4,B.2.1,B.2.2.1,w.at,w.2.1]
   exact hK'
 ·rw[tq (by omega)]at hre
  obtain⟨o1,o2,o3,o4⟩:=out hre.symm
  simp(disch:=first|omega|simp only[zz];try omega;done) only[↓reduceIte,go_sem,e0,e1,e5,au (show¬(e:Int)<s.length by omega),af (show p<=e by omega),af hes]
  refine kD (.inr (.inr ⟨rfl,Dk s p,sub s (mh s p) e,by rw[o2],o3,o4,by rw[tJ hes];omega,λn q=>(by rw[o1]at q;cases q),λ_ n=>⟨kY,?_⟩⟩))
  simp(disch:=first|omega|simp only[zz];try omega;done) only[↓reduceIte,go_sem,e1,e4,B.2.1,B.2.2.1,w.at,w.2.1]
  exact hK'
def aeB(s:List UInt8)(k:Nat)(c:Int)(p:Nat):Prop:=k<s.length/\mU s k (k+1) []= .bad c p
theorem Ja(hC:Lt aeB vs h K):ma Tryz.prog 107 vs h K KP:=by
 obtain⟨u,s,o,c,p,rfl,hs,⟨ho,hx⟩,hK⟩:=hC
 refine kP 73033859571 [((some (.c1 (.ldn 3) (.t 4))),(.o1 (.ldn 3) (.t 4)))] Aw Tryz.func107 (by kernel_rfl) (by conv=>lhs;cbv;try simp only[mF]) ?_
 obtain⟨h1,u1,hh1,zh,p1,B⟩:=sJ u h
 have B1:=B.1
 obtain⟨w,hK'⟩:=tY (.int .i64 c) (.int .i64 0) (.int .i64 p) p1 B (aH _) (λu' h' q=>hK u' h' q)
 obtain⟨I,hI⟩:=kJ (α:=Nat×List UInt8->lm->H->Prop) λx σ h'=>σ 0=str s/\σ 1= .int .i64 o/\σ 4= .pointer (some ⟨h.size,0,none⟩)/\σ 5= .int .i64 x.2.length/\σ 6= .int .i64 x.1/\h'=h1/\x.1<=s.length/\x.2.length<=255/\mU s o x.1 x.2= .bad c p
 simp(disch:=first|omega|simp only[zz];try omega;done) only[↓reduceIte,go_sem,<-hh1]
 refine kH I (λx=>s.length - x.1) (o+1,[]) (by rw[hI];exact⟨by simp [kF],by simp [kF],by simp [kF],by simp [kF],by simp [kF],rfl,by simp only;omega,by simp,hx⟩) ?_
 rintro ⟨i,acc⟩ σ h' hi
 rw[hI]at hi
 obtain⟨e0,e1,e4,e5,e6,rfl,his,hacc,ht⟩:=hi
 simp only at e5 e6 his hacc ht
 unfold mU at ht
 by_cases hlt:i<s.length
 case neg=>
  rw[ah (by omega)]at ht
  obtain⟨rfl,rfl⟩:11=c/\o=p:=by simpa using ht
  simp(disch:=first|omega|simp only[zz];try omega;done) only[↓reduceIte,go_sem,e0,e1,e4,e6,au (show¬(i:Int)<s.length by omega),B.2.1,B.2.2.1,w.at,w.2.1]
  exact hK'
 have l1:=af (show(i:Int)<s.length by omega)
 have l2:=af hlt
 by_cases h32:32<=kS s i
 case neg=>
  rw[ah (by omega)]at ht
  obtain⟨rfl,rfl⟩:11=c/\o=p:=by simpa using ht
  simp(disch:=first|omega|simp only[zz];try omega;done) only[↓reduceIte,go_sem,e0,e1,e4,e6,l1,mE,af (show(kS s i:Int)<32 by omega),B.2.1,B.2.2.1,w.at,w.2.1]
  exact hK'
 rw[ay ⟨hlt,h32⟩]at ht
 have l3:=au (show¬(kS s i:Int)<32 by omega)
 by_cases h34:kS s i=34
 ·rw[ay h34]at ht;cases ht
 rw[ah h34]at ht
 have l4:=au (show¬(kS s i:Int)=34 by omega)
 by_cases h92:kS s i=92
 ·rw[ay h92]at ht
  simp(disch:=first|omega|simp only[zz];try omega;done) only[↓reduceIte,go_sem,e0,e6,l1,l3,l4,mE,af (show(kS s i:Int)=92 by omega)]
  refine kD ⟨rfl,s,i,rfl,his,hs,⟨kY,?_⟩⟩
  have hel:=tH s i
  by_cases hn:(nU s i).2=0
  ·rw[ay hn]at ht
   obtain⟨rfl,rfl⟩:12=c/\i=p:=by simpa using ht
   simp(disch:=first|omega|simp only[zz];try omega;done) only[↓reduceIte,go_sem,e4,e6,af (show((nU s i).2:Int)=0 by omega),B.2.1,B.2.2.1,w.at,w.2.1]
   exact hK'
  rw[ah hn]at ht
  have l5:=au (show¬((nU s i).2:Int)=0 by omega)
  by_cases h255:acc.length=255
  ·rw[ay h255]at ht
   obtain⟨rfl,rfl⟩:15=c/\o=p:=by simpa using ht
   simp(disch:=first|omega|simp only[zz];try omega;done) only[↓reduceIte,go_sem,e1,e4,e5,l5,af (show(acc.length:Int)=255 by omega),B.2.1,B.2.2.1,w.at,w.2.1]
   exact hK'
  ·rw[ah h255]at ht
   simp(disch:=first|omega|simp only[zz];try omega;done) only[↓reduceIte,go_sem,e5,e6,l5,au (show¬(acc.length:Int)=255 by omega)]
   exact⟨(i+(nU s i).2,acc++[UInt8.ofNat (nU s i).1]),by rw[hI];exact⟨by simp [kF,e0],by simp [kF,e1],by simp [kF,e4],by simp [kF],by simp [kF],rfl,by simp only;omega,by simp;omega,ht⟩,by simp only;omega⟩
 rw[ah h92]at ht
 have l6:=au (show¬(kS s i:Int)=92 by omega)
 by_cases h255:acc.length=255
 ·rw[ay h255]at ht
  obtain⟨rfl,rfl⟩:15=c/\o=p:=by simpa using ht
  simp(disch:=first|omega|simp only[zz];try omega;done) only[↓reduceIte,go_sem,e0,e1,e4,e5,e6,l1,l3,l4,l6,mE,af (show(acc.length:Int)=255 by omega),B.2.1,B.2.2.1,w.at,w.2.1]
  exact hK'
 ·rw[ah h255]at ht
  simp(disch:=first|omega|simp only[zz];try omega;done) only[↓reduceIte,go_sem,e0,e5,e6,l1,l3,l4,l6,mE,au (show¬(acc.length:Int)=255 by omega)]
  exact⟨(i+1,acc++[UInt8.ofNat (kS s i)]),by rw[hI];exact⟨by simp [kF,e0],by simp [kF,e1],by simp [kF,e4],by simp [kF],by simp [kF],rfl,by simp only;omega,by simp;omega,ht⟩,by simp only;omega⟩
end Go.Proofs.Z
namespace Edict
theorem WW{s:List UInt8}{o:Nat}{c:Int}{p:Nat}(h:wS s o= .bad c p):c=10/\p=o/\pr s o 58 45=false/\pr s o 33 61=false/\kS s o≠60/\kS s o≠62/\kS s o≠61/\kS s o≠40/\kS s o≠41/\kS s o≠44/\kS s o≠46:=by
 unfold wS at h
 repeat' split at h
 all_goals first
  |(cases h;done)
  |(cases h;simp_all)
end Edict
namespace Go.Proofs.Z
open Go Go.Ev Edict
def aez(s:List UInt8)(k:Nat)(c:Int)(p:Nat):Prop:=k<=s.length/\oo s k= .bad c p
def YY:mG:=λf vs h K _=>(f=102/\TM vs h K)\/(f=104/\Cc uJ vs h K)\/(f=105/\Cc qB vs h K)\/(f=106/\Lt aeA vs h K)\/(f=107/\Lt aeB vs h K)
theorem NY:nz Tryz.prog YY:=mK Kj (mK tN (mK Ba (mK JL (qd Ja))))
theorem UZ{vs:List Value}{h:H}{K:Value->H->Prop}{KP:List PanicEntry->H->Prop}(hC:Lt aez vs h K):ma Tryz.prog 80 vs h K KP:=by
 obtain⟨u,s,k,c,p,rfl,hs,⟨hk,hx⟩,hK⟩:=hC
 refine kP 79229391528589515134119052275 [((some (.c1 (.ldn 3) (.t 4))),(.o1 (.ldn 3) (.t 4)))] NY Tryz.func80 (by kernel_rfl) (by conv=>lhs;cbv;try simp only[mF]) ?_
 obtain⟨h1,u1,hh1,zh,p1,B⟩:=sJ u h
 have B1:=B.1
 obtain⟨w,hK'⟩:=tY (.int .i64 c) (.int .i64 0) (.int .i64 p) p1 B (aH _) (λu' h' q=>hK u' h' q)
 simp(disch:=first|omega|simp only[zz];try omega;done) only[↓reduceIte,go_sem,<-hh1]
 refine kD (.inl ⟨rfl,s,k,rfl,hk,hs,⟨kY,?_⟩⟩)
 obtain⟨o,ho⟩:=kJ ((nK s k).1)
 have hos:o<=s.length:=by rw[ho];exact yQ hk
 unfold oo at hx
 rw[<-ho]at hx ⊢
 cases hg:(nK s k).2 with
 |false=>
  rw[hg,ah (by decide)]at hx
  obtain⟨rfl,rfl⟩:16=c/\o=p:=by simpa using hx
  rw[ah (by decide)]
  simp(disch:=first|omega|simp only[zz];try omega;done) only[↓reduceIte,go_sem,af (show(0:Int)<=(o:Int) by omega),B.2.1,B.2.2.1,w.at,w.2.1]
  exact hK'
 |true=>
  rw[hg,ay rfl]at hx
  rw[ay rfl]
  obtain⟨hol,-⟩:=VV hx
  rw[aay hol]at hx
  have eo:(o:Int)+1=((o+1:Nat):Int):=by omega
  have hle:=uQ s o hos
  have hge:=ME s o
  obtain⟨I,hI⟩:=kJ (α:=Nat->lm->H->Prop) λe σ h'=>σ 0=str s/\σ 4= .pointer (some ⟨h.size,0,none⟩)/\σ 5= .int .i64 o/\σ 7= .int .u8 (kS s o)/\σ 8= .int .u8 (kS s (o+1))/\σ 9= .int .i64 e/\h'=h1/\e<=s.length/\nG s e=nG s o
  rcases dG (o+1<s.length)with hn|hn
  all_goals
   first
    |(simp(disch:=first|omega|simp only[zz];try omega;done) only[↓reduceIte,go_sem,au (show¬(o:Int)=s.length by omega),af (show(o:Int)<s.length by omega),eo,af hn,mE]
      refine kH I (λe=>s.length - e) o (by rw[hI];exact⟨by simp [kF],by simp [kF],by simp [kF],by simp [kF],by simp [kF],by simp [kF],rfl,hos,rfl⟩) ?_)
    |(simp(disch:=first|omega|simp only[zz];try omega;done) only[↓reduceIte,go_sem,au (show¬(o:Int)=s.length by omega),af (show(o:Int)<s.length by omega),eo,au hn,mE]
      refine kH I (λe=>s.length - e) o (by rw[hI];exact⟨by simp [kF],by simp [kF],by simp [kF],by simp [kF],by simp [kF,si (show s.length<=o+1 by omega)],by simp [kF],rfl,hos,rfl⟩) ?_)
   intro e σ h' hi
   rw[hI]at hi
   obtain⟨e0,e4,e5,e7,e8,e9,rfl,hes,hre⟩:=hi
   by_cases hc:e<s.length/\uJ (kS s e)=true
   ·simp(disch:=first|omega|simp only[zz];try omega;done) only[↓reduceIte,go_sem,e0,e9,af (show(e:Int)<s.length by omega),mE]
    refine kD (.inr (.inl ⟨rfl,_,rfl,⟨kY,?_⟩⟩))
    rw[hc.2]
    simp(disch:=first|omega|simp only[zz];try omega;done) only[↓reduceIte,go_sem,e0,e9,af (show(e:Int)<s.length by omega)]
    exact⟨e+1,by rw[hI];exact⟨by simp [kF,e0],by simp [kF,e4],by simp [kF,e5],by simp [kF,e7],by simp [kF,e8],by simp [kF],rfl,hc.1,(xN hc.1 hc.2).symm.trans hre⟩,by omega⟩
   rw[tq hc]at hre
   rcases dG (e<s.length)with hl|hl
   all_goals
    first
     |(simp(disch:=first|omega|simp only[zz];try omega;done) only[↓reduceIte,go_sem,e0,e9,af (show(e:Int)<s.length by omega),mE]
       refine kD (.inr (.inl ⟨rfl,_,rfl,⟨kY,?_⟩⟩))
       rw[show uJ (kS s e)=false by cases q:uJ (kS s e);rfl;exact absurd ⟨hl,q⟩ hc]
       simp(disch:=first|omega|simp only[zz];try omega;done) only[↓reduceIte,go_sem,e0,e7,e9,af (show(e:Int)<s.length by omega)])
     |(simp(disch:=first|omega|simp only[zz];try omega;done) only[↓reduceIte,go_sem,e0,e7,e9,au (show¬(e:Int)<s.length by omega)])
    refine kD (.inr (.inr (.inl ⟨rfl,_,rfl,⟨kY,?_⟩⟩)))
    by_cases hd:qB (kS s o)=true
    ·rw[ay hd]at hx
     have hb:kS s o≠45:=λq=>by rw[q]at hd;revert hd;decide
     have hf:mh s o=o:=ah hb
     rw[hd]
     simp(disch:=first|omega|simp only[zz];try omega;done) only[↓reduceIte,go_sem,e0,e5,e7]
     refine kD (.inr (.inr (.inr (.inl ⟨rfl,u1,s,o,c,p,rfl,hs,⟨hol,by rw[hf];exact hd,by rw[hf];exact hx⟩,λu2 h2 s2=>⟨kY,?_⟩⟩))))
     have B2:=B.sZ s2
     have B21:=B2.1
     obtain⟨w,hK'⟩:=tY (.int .i64 c) (.int .i64 0) (.int .i64 p) (p1.tZ s2) B2 (aH _) (λu' h' q=>hK u' h' q)
     simp only[kT]
     simp(disch:=first|omega|simp only[zz];try omega;done) only[↓reduceIte,go_sem,e4,B2.2.1,B2.2.2.1,w.at,w.2.1]
     exact hK'
    rw[ah hd]at hx
    rw[show qB (kS s o)=false by simpa using hd]
    by_cases h45:kS s o=45
    ·simp(disch:=first|omega|simp only[zz];try omega;done) only[↓reduceIte,go_sem,e7,e8,af (show(kS s o:Int)=45 by omega)]
     refine kD (.inr (.inr (.inl ⟨rfl,_,rfl,⟨kY,?_⟩⟩)))
     by_cases hd2:qB (kS s (o+1))=true
     ·rw[ay ⟨h45,hd2⟩]at hx
      have hf:mh s o=o+1:=ay h45
      rw[hd2]
      simp(disch:=first|omega|simp only[zz];try omega;done) only[↓reduceIte,go_sem,e0,e5,e7,af (show(kS s o:Int)=45 by omega)]
      refine kD (.inr (.inr (.inr (.inl ⟨rfl,u1,s,o,c,p,rfl,hs,⟨hol,by rw[hf];exact hd2,by rw[hf];exact hx⟩,λu2 h2 s2=>⟨kY,?_⟩⟩))))
      have B2:=B.sZ s2
      have B21:=B2.1
      obtain⟨w,hK'⟩:=tY (.int .i64 c) (.int .i64 0) (.int .i64 p) (p1.tZ s2) B2 (aH _) (λu' h' q=>hK u' h' q)
      simp only[kT]
      simp(disch:=first|omega|simp only[zz];try omega;done) only[↓reduceIte,go_sem,e4,B2.2.1,B2.2.2.1,w.at,w.2.1]
      exact hK'
     rw[show qB (kS s (o+1))=false by simpa using hd2]
     rw[ah (λq=>hd2 q.2),h45,ah (by decide),ah (by decide)]at hx
     have hx':wS s o= .bad c p:=hx
     obtain⟨rfl,rfl,-⟩:=WW hx'
     simp(disch:=first|omega|simp only[zz];try omega;done) only[↓reduceIte,go_sem,e7,af (show(kS s p:Int)=45 by omega)]
     refine kD (.inr (.inl ⟨rfl,_,rfl,⟨kY,?_⟩⟩))
     rw[h45,show uJ 45=false from rfl]
     simp(disch:=first|omega|simp only[zz];try omega;done) only[↓reduceIte,go_sem,e4,e5,e7,e8,h45,B.2.1,B.2.2.1,w.at,w.2.1]
     exact hK'
    rw[ah (λq=>h45 q.1)]at hx
    simp(disch:=first|omega|simp only[zz];try omega;done) only[↓reduceIte,go_sem,e7,au (show¬(kS s o:Int)=45 by omega)]
    refine kD (.inr (.inl ⟨rfl,_,rfl,⟨kY,?_⟩⟩))
    by_cases hw:uJ (kS s o)=true
    ·rw[ay hw]at hx
     obtain⟨rfl,rfl,h64⟩:14=c/\o=p/\64<nG s o - o:=by
      unfold rY at hx
      repeat' split at hx
      all_goals first|(cases hx;done)|(rename_i q;cases hx;exact⟨rfl,rfl,q⟩)
     rw[hw]
     simp(disch:=first|omega|simp only[zz];try omega;done) only[↓reduceIte,go_sem,e4,e5,e9,af (show(64:Int)<(e:Int) - (o:Int) by omega),B.2.1,B.2.2.1,w.at,w.2.1]
     exact hK'
    rw[ah hw]at hx
    rw[show uJ (kS s o)=false by simpa using hw]
    by_cases h34:kS s o=34
    ·rw[ay h34]at hx
     simp(disch:=first|omega|simp only[zz];try omega;done) only[↓reduceIte,go_sem,e0,e5,e7,af (show(kS s o:Int)=34 by omega)]
     refine kD (.inr (.inr (.inr (.inr ⟨rfl,u1,s,o,c,p,rfl,hs,⟨hol,hx⟩,λu2 h2 s2=>⟨kY,?_⟩⟩))))
     have B2:=B.sZ s2
     have B21:=B2.1
     obtain⟨w,hK'⟩:=tY (.int .i64 c) (.int .i64 0) (.int .i64 p) (p1.tZ s2) B2 (aH _) (λu' h' q=>hK u' h' q)
     simp only[kT]
     simp(disch:=first|omega|simp only[zz];try omega;done) only[↓reduceIte,go_sem,e4,B2.2.1,B2.2.2.1,w.at,w.2.1]
     exact hK'
    rw[ah h34]at hx
    have hx':wS s o= .bad c p:=hx
    obtain⟨rfl,rfl,r1,r2,r3⟩:=WW hx'
    have m1:kS s p=58->kS s (p+1)≠45:=λa b=>by unfold pr at r1;rw[a,b]at r1;simp at r1;rw[si (by omega)]at b;omega
    have m2:kS s p=33->kS s (p+1)≠61:=λa b=>by unfold pr at r2;rw[a,b]at r2;simp at r2;rw[si (by omega)]at b;omega
    have f1:=au (show¬(kS s p:Int)=34 by omega)
    have f2:=au (show¬(kS s p:Int)=40 by omega)
    have f3:=au (show¬(kS s p:Int)=41 by omega)
    have f4:=au (show¬(kS s p:Int)=44 by omega)
    have f5:=au (show¬(kS s p:Int)=46 by omega)
    have f6:=au (show¬(kS s p:Int)=61 by omega)
    have f7:=au (show¬(kS s p:Int)=60 by omega)
    have f8:=au (show¬(kS s p:Int)=62 by omega)
    by_cases q58:kS s p=58
    ·simp(disch:=first|omega|simp only[zz];try omega;done) only[↓reduceIte,go_sem,e4,e5,e7,e8,q58,au (show¬(kS s (p+1):Int)=45 by have:=m1 q58;omega),B.2.1,B.2.2.1,w.at,w.2.1]
     exact hK'
    by_cases q33:kS s p=33
    ·simp(disch:=first|omega|simp only[zz];try omega;done) only[↓reduceIte,go_sem,e4,e5,e7,e8,q33,au (show¬(kS s (p+1):Int)=61 by have:=m2 q33;omega),B.2.1,B.2.2.1,w.at,w.2.1]
     exact hK'
    ·simp(disch:=first|omega|simp only[zz];try omega;done) only[↓reduceIte,go_sem,e4,e5,e7,e8,f1,f2,f3,f4,f5,f6,f7,f8,au (show¬(kS s p:Int)=58 by omega),au (show¬(kS s p:Int)=33 by omega),B.2.1,B.2.2.1,w.at,w.2.1]
     exact hK'
variable {vs:List Value} {h:H} {K:Value->H->Prop} {KP:List PanicEntry->H->Prop}
theorem kI{K:Value->H->Prop}{a b:Int}{h:H}(e:b=a)(hK:K (.int .i64 b) h):K (.int .i64 a) h:=e▸hK
def IZ(vs:List Value)(h:H)(K:Value->H->Prop):Prop:= ∃k a sa b sb c sc:Int,vs=[.int .i64 k,.int .i64 a,.int .i64 sa,.int .i64 b,.int .i64 sb,.int .i64 c,.int .i64 sc]/\K (.int .i64 (om k a sa b sb c sc)) h
theorem EP(hC:IZ vs h K):ma Tryz.prog 111 vs h K KP:=by
 obtain⟨k,a,sa,b,sb,c,sc,rfl,hK⟩:=hC
 refine kP 17940607 [(none,(.t 14))] (G:=(λ_ _ _ _ _=>False)) (λ_ _ _ _ _ h=>h.elim) Tryz.func111 (by kernel_rfl) (by conv=>lhs;cbv;try simp only[mF]) ?_
 unfold om at hK
 by_cases q1:k=a
 ·rw[ay q1]at hK;simp(disch:=first|omega|simp only[zz];try omega;done) only[↓reduceIte,go_sem,af q1];exact hK
 rw[ah q1]at hK
 by_cases q2:k=b
 ·rw[ay q2]at hK;simp(disch:=first|omega|simp only[zz];try omega;done) only[↓reduceIte,go_sem,au q1,af q2];exact hK
 rw[ah q2]at hK
 by_cases q3:k=c
 ·rw[ay q3]at hK;simp(disch:=first|omega|simp only[zz];try omega;done) only[↓reduceIte,go_sem,au q1,au q2,af q3];exact hK
 ·rw[ah q3]at hK;simp(disch:=first|omega|simp only[zz];try omega;done) only[↓reduceIte,go_sem,au q1,au q2,au q3];exact hK
def BG(vs:List Value)(h:H)(K:Value->H->Prop):Prop:= ∃(k:Int) (g:Bool),vs=[.int .i64 k,.bool g]/\K (.bool (pO k (!g))) h
theorem AO(hC:BG vs h K):ma Tryz.prog 112 vs h K KP:=by
 obtain⟨k,g,rfl,hK⟩:=hC
 refine kP 19 [(none,(.t 4))] (G:=(λ_ _ _ _ _=>False)) (λ_ _ _ _ _ h=>h.elim) Tryz.func112 (by kernel_rfl) (by conv=>lhs;cbv;try simp only[mF]) ?_
 simp(disch:=first|omega|simp only[zz];try omega;done) only[↓reduceIte,go_sem]
 exact kb (by unfold pO;apply dm.2;cases g<;>simp<;>omega) hK
def ab5(vs:List Value)(h:H)(K:Value->H->Prop):Prop:= ∃f s k:Int,vs=[.int .i64 (nV s),.int .i64 k,.int .i64 (if f=0 then 0 else 1)]/\RZ f s/\0<=k/\K (.int .i64 (nV (lg f s k))) h
def UY:mG:=λf vs h K _=>(f=111/\IZ vs h K)\/(f=112/\BG vs h K)
theorem JK:nz Tryz.prog UY:=mK EP (qd AO)
def RV(vs:List Value)(h:H)(K:Value->H->Prop):Prop:= ∃s k:Int,vs=[.int .i64 (nV s),.int .i64 k]/\15<=s/\s<=19/\0<=k/\K (.int .i64 (nV (lg 15 s k))) h
theorem Fp(hC:RV vs h K):ma Tryz.prog 113 vs h K KP:=by
 obtain⟨s,k,rfl,h1,h2,hk,hK⟩:=hC
 refine kP 37529999131763 [(none,(.t 4))] JK Tryz.func113 (by kernel_rfl) (by conv=>lhs;cbv;try simp only[mF]) ?_
 have hs:s=15\/s=16\/s=17\/s=18\/s=19:=by omega
 rcases hs with rfl|rfl|rfl|rfl|rfl
 ·simp(disch:=first|omega|simp only[zz];try omega;done) only[↓reduceIte,go_sem,show nV 15=30 from rfl]
  refine kD (.inl ⟨rfl,_,_,_,_,_,_,_,rfl,⟨kY,?_⟩⟩)
  simp(disch:=first|omega|simp only[zz];try omega;done) only[↓reduceIte,go_sem,Vs]
  exact kI (by unfold om lg;simp only[Int.reduceEq,↓reduceIte];(repeat' split)<;>first|rfl|(exfalso;omega)) hK
 ·simp(disch:=first|omega|simp only[zz];try omega;done) only[↓reduceIte,go_sem,show nV 16=31 from rfl]
  refine kD (.inl ⟨rfl,_,_,_,_,_,_,_,rfl,⟨kY,?_⟩⟩)
  simp(disch:=first|omega|simp only[zz];try omega;done) only[↓reduceIte,go_sem,Vs]
  exact kI (by unfold om lg;simp only[Int.reduceEq,↓reduceIte];(repeat' split)<;>first|rfl|(exfalso;omega)) hK
 ·simp(disch:=first|omega|simp only[zz];try omega;done) only[↓reduceIte,go_sem,show nV 17=32 from rfl]
  refine kD (.inr ⟨rfl,_,_,rfl,⟨kY,?_⟩⟩)
  cases hT:pO k false with
  |true=>simp(disch:=first|omega|simp only[zz];try omega;done) only[↓reduceIte,go_sem,hT,ji];exact kI (by unfold lg;simp only[Int.reduceEq,↓reduceIte,hT];rfl) hK
  |false=>simp(disch:=first|omega|simp only[zz];try omega;done) only[↓reduceIte,go_sem,hT,ji];exact kI (by unfold lg;simp only[Int.reduceEq,↓reduceIte,hT,aV];rfl) hK
 ·simp(disch:=first|omega|simp only[zz];try omega;done) only[↓reduceIte,go_sem,show nV 18=33 from rfl]
  refine kD (.inl ⟨rfl,_,_,_,_,_,_,_,rfl,⟨kY,?_⟩⟩)
  simp(disch:=first|omega|simp only[zz];try omega;done) only[↓reduceIte,go_sem,Vs]
  exact kI (by unfold om lg;simp only[Int.reduceEq,↓reduceIte];(repeat' split)<;>first|rfl|(exfalso;omega)) hK
 ·simp(disch:=first|omega|simp only[zz];try omega;done) only[↓reduceIte,go_sem,show nV 19=34 from rfl]
  refine kD (.inl ⟨rfl,_,_,_,_,_,_,_,rfl,⟨kY,?_⟩⟩)
  simp(disch:=first|omega|simp only[zz];try omega;done) only[↓reduceIte,go_sem,Vs]
  exact kI (by unfold om lg;simp only[Int.reduceEq,↓reduceIte];(repeat' split)<;>first|rfl|(exfalso;omega)) hK
def ab6:mG:=λf vs h K _=>(f=111/\IZ vs h K)\/(f=112/\BG vs h K)\/(f=113/\RV vs h K)
theorem RY:nz Tryz.prog ab6:=mK EP (mK AO (qd Fp))
theorem YX(hC:ab5 vs h K):ma Tryz.prog 87 vs h K KP:=by
 obtain⟨f,s,k,rfl,hst,hk,hK⟩:=hC
 refine kP 2739600364420927163240135 [(none,(.t 6))] RY Tryz.func87 (by kernel_rfl) (by conv=>lhs;cbv;try simp only[mF]) ?_
 rcases CO hst with⟨rfl,hs⟩|⟨rfl,hs⟩
 case inr=>
  obtain⟨h1,h2⟩:15<=s/\s<=19:=by omega
  have hp:nV s=s+15:=by unfold nV;rw[ah (by omega),ah (by omega),ah (by omega),ah (by omega),ah (by omega),ah (by omega),ah (by omega),ay ⟨h1,h2⟩]
  rw[hp]
  have e15:=au (show¬(15:Int)=0 by decide)
  simp(disch:=first|omega|simp only[zz];try omega;done) only[↓reduceIte,go_sem,e15,au (show¬s+15=0 by omega),au (show¬s+15=1 by omega),au (show¬s+15=2 by omega),au (show¬s+15=3 by omega),au (show¬s+15=4 by omega),au (show¬s+15=5 by omega),au (show¬s+15=6 by omega),au (show¬s+15=7 by omega),au (show¬s+15=8 by omega),au (show¬s+15=9 by omega),au (show¬s+15=10 by omega),au (show¬s+15=11 by omega),au (show¬s+15=12 by omega),au (show¬s+15=13 by omega),au (show¬s+15=14 by omega)]
  refine kD (.inr (.inr ⟨rfl,s,k,by rw[hp],h1,h2,hk,⟨kY,?_⟩⟩))
  simp(disch:=first|omega|simp only[zz];try omega;done) only[↓reduceIte,go_sem,Vs]
  exact hK
 rcases hs with rfl|rfl|rfl|rfl|rfl|rfl|rfl|rfl|rfl|rfl|rfl|rfl|rfl|rfl|rfl
 ·simp(disch:=first|omega|simp only[zz];try omega;done) only[↓reduceIte,go_sem,show nV 0=0 from rfl]
  refine kD (.inl ⟨rfl,_,_,_,_,_,_,_,rfl,⟨kY,?_⟩⟩)
  simp(disch:=first|omega|simp only[zz];try omega;done) only[↓reduceIte,go_sem,Vs]
  exact kI (by unfold om lg;simp only[↓reduceIte];(repeat' split)<;>first|rfl|(exfalso;omega)) hK
 ·simp(disch:=first|omega|simp only[zz];try omega;done) only[↓reduceIte,go_sem,show nV 1=1 from rfl]
  refine kD (.inl ⟨rfl,_,_,_,_,_,_,_,rfl,⟨kY,?_⟩⟩)
  simp(disch:=first|omega|simp only[zz];try omega;done) only[↓reduceIte,go_sem,Vs]
  exact kI (by unfold om lg;simp only[Int.reduceEq,↓reduceIte];(repeat' split)<;>first|rfl|(exfalso;omega)) hK
 ·simp(disch:=first|omega|simp only[zz];try omega;done) only[↓reduceIte,go_sem,show nV 2=2 from rfl]
  refine kD (.inr (.inl ⟨rfl,_,_,rfl,⟨kY,?_⟩⟩))
  cases hT:pO k true with
  |true=>simp(disch:=first|omega|simp only[zz];try omega;done) only[↓reduceIte,go_sem,hT,fH];exact kI (by unfold lg;simp only[Int.reduceEq,↓reduceIte,hT];rfl) hK
  |false=>simp(disch:=first|omega|simp only[zz];try omega;done) only[↓reduceIte,go_sem,hT,fH];exact kI (by unfold lg;simp only[Int.reduceEq,↓reduceIte,hT,aV];rfl) hK
 ·simp(disch:=first|omega|simp only[zz];try omega;done) only[↓reduceIte,go_sem,show nV 3=3 from rfl]
  refine kD (.inl ⟨rfl,_,_,_,_,_,_,_,rfl,⟨kY,?_⟩⟩)
  simp(disch:=first|omega|simp only[zz];try omega;done) only[↓reduceIte,go_sem,Vs]
  exact kI (by unfold om lg;simp only[Int.reduceEq,↓reduceIte];(repeat' split)<;>first|rfl|(exfalso;omega)) hK
 ·simp(disch:=first|omega|simp only[zz];try omega;done) only[↓reduceIte,go_sem,show nV 4=4 from rfl]
  refine kD (.inl ⟨rfl,_,_,_,_,_,_,_,rfl,⟨kY,?_⟩⟩)
  simp(disch:=first|omega|simp only[zz];try omega;done) only[↓reduceIte,go_sem,Vs]
  exact kI (by unfold om lg;simp only[Int.reduceEq,↓reduceIte];(repeat' split)<;>first|rfl|(exfalso;omega)) hK
 ·by_cases q:k=2\/k=3\/k=4
  ·rcases q with rfl|rfl|rfl<;>(simp(disch:=first|omega|simp only[zz];try omega;done) only[↓reduceIte,go_sem,show nV 5=5 from rfl];exact hK)
  ·simp(disch:=first|omega|simp only[zz];try omega;done) only[↓reduceIte,go_sem,show nV 5=5 from rfl,au (show¬k=2 by omega),au (show¬k=3 by omega),au (show¬k=4 by omega)]
   refine kD (.inl ⟨rfl,_,_,_,_,_,_,_,rfl,⟨kY,?_⟩⟩)
   simp(disch:=first|omega|simp only[zz];try omega;done) only[↓reduceIte,go_sem,Vs]
   have hT:pO k true=true->k=1:=λq=>by have:=Ec.1 q;omega
   exact kI (by unfold om lg;simp only[Int.reduceEq,↓reduceIte];(repeat' split)<;>first|rfl|(exfalso;omega)|(exfalso;have:=hT (by assumption);omega)) hK
 ·by_cases q:k=11
  ·subst q;simp(disch:=first|omega|simp only[zz];try omega;done) only[↓reduceIte,go_sem,show nV 6=6 from rfl];exact hK
  ·simp(disch:=first|omega|simp only[zz];try omega;done) only[↓reduceIte,go_sem,show nV 6=6 from rfl,au q]
   refine kD (.inl ⟨rfl,_,_,_,_,_,_,_,rfl,⟨kY,?_⟩⟩)
   simp(disch:=first|omega|simp only[zz];try omega;done) only[↓reduceIte,go_sem,Vs]
   exact kI (by unfold om lg;simp only[Am,Int.reduceEq,↓reduceIte];(repeat' split)<;>first|rfl|(exfalso;omega)) hK
 ·simp(disch:=first|omega|simp only[zz];try omega;done) only[↓reduceIte,go_sem,show nV 7=10 from rfl]
  refine kD (.inl ⟨rfl,_,_,_,_,_,_,_,rfl,⟨kY,?_⟩⟩)
  simp(disch:=first|omega|simp only[zz];try omega;done) only[↓reduceIte,go_sem,Vs]
  exact kI (by unfold om lg;simp only[Int.reduceEq,↓reduceIte];(repeat' split)<;>first|rfl|(exfalso;omega)) hK
 ·simp(disch:=first|omega|simp only[zz];try omega;done) only[↓reduceIte,go_sem,show nV 8=12 from rfl]
  refine kD (.inl ⟨rfl,_,_,_,_,_,_,_,rfl,⟨kY,?_⟩⟩)
  simp(disch:=first|omega|simp only[zz];try omega;done) only[↓reduceIte,go_sem,Vs]
  exact kI (by unfold om lg;simp only[Int.reduceEq,↓reduceIte];(repeat' split)<;>first|rfl|(exfalso;omega)) hK
 ·simp(disch:=first|omega|simp only[zz];try omega;done) only[↓reduceIte,go_sem,show nV 9=7 from rfl]
  refine kD (.inr (.inl ⟨rfl,_,_,rfl,⟨kY,?_⟩⟩))
  cases hT:pO k true with
  |true=>simp(disch:=first|omega|simp only[zz];try omega;done) only[↓reduceIte,go_sem,hT,fH];exact kI (by unfold lg;simp only[Int.reduceEq,↓reduceIte,hT];rfl) hK
  |false=>simp(disch:=first|omega|simp only[zz];try omega;done) only[↓reduceIte,go_sem,hT,fH];exact kI (by unfold lg;simp only[Int.reduceEq,↓reduceIte,hT,aV];rfl) hK
 ·simp(disch:=first|omega|simp only[zz];try omega;done) only[↓reduceIte,go_sem,show nV 10=8 from rfl]
  refine kD (.inl ⟨rfl,_,_,_,_,_,_,_,rfl,⟨kY,?_⟩⟩)
  simp(disch:=first|omega|simp only[zz];try omega;done) only[↓reduceIte,go_sem,Vs]
  exact kI (by unfold om lg;simp only[Int.reduceEq,↓reduceIte];(repeat' split)<;>first|rfl|(exfalso;omega)) hK
 ·simp(disch:=first|omega|simp only[zz];try omega;done) only[↓reduceIte,go_sem,show nV 11=13 from rfl]
  refine kD (.inr (.inl ⟨rfl,_,_,rfl,⟨kY,?_⟩⟩))
  cases hT:pO k true with
  |true=>simp(disch:=first|omega|simp only[zz];try omega;done) only[↓reduceIte,go_sem,hT,fH];exact kI (by unfold lg;simp only[Int.reduceEq,↓reduceIte,hT];rfl) hK
  |false=>simp(disch:=first|omega|simp only[zz];try omega;done) only[↓reduceIte,go_sem,hT,fH];exact kI (by unfold lg;simp only[Int.reduceEq,↓reduceIte,hT,aV];rfl) hK
 ·simp(disch:=first|omega|simp only[zz];try omega;done) only[↓reduceIte,go_sem,show nV 12=11 from rfl]
  refine kD (.inl ⟨rfl,_,_,_,_,_,_,_,rfl,⟨kY,?_⟩⟩)
  simp(disch:=first|omega|simp only[zz];try omega;done) only[↓reduceIte,go_sem,Vs]
  exact kI (by unfold om lg;simp only[Am,Int.reduceEq,↓reduceIte];(repeat' split)<;>first|rfl|(exfalso;omega)) hK
 ·simp(disch:=first|omega|simp only[zz];try omega;done) only[↓reduceIte,go_sem,show nV 13=9 from rfl]
  refine kD (.inl ⟨rfl,_,_,_,_,_,_,_,rfl,⟨kY,?_⟩⟩)
  simp(disch:=first|omega|simp only[zz];try omega;done) only[↓reduceIte,go_sem,Vs]
  exact kI (by unfold om lg;simp only[Am,Int.reduceEq,↓reduceIte];(repeat' split)<;>first|rfl|(exfalso;omega)) hK
 ·simp(disch:=first|omega|simp only[zz];try omega;done) only[↓reduceIte,go_sem,show nV 14=14 from rfl]
  refine kD (.inl ⟨rfl,_,_,_,_,_,_,_,rfl,⟨kY,?_⟩⟩)
  simp(disch:=first|omega|simp only[zz];try omega;done) only[↓reduceIte,go_sem,Vs]
  exact kI (by unfold om lg;simp only[Am,Int.reduceEq,↓reduceIte];(repeat' split)<;>first|rfl|(exfalso;omega)) hK
end Go.Proofs.Z
namespace Edict
theorem YW{f s k:Int}(h:lg f s k≠ -1):0<=lg f s k/\lg f s k<=26:=by
 obtain⟨m,hm⟩:=kJ (lg f s k)
 rw[<-hm]at h ⊢
 unfold lg Am at hm
 repeat' split at hm
 all_goals omega
theorem ab4{f s k:Int}(h:RZ f s)(hm:lg f s k=26):k=0/\(s=0\/s=15):=by
 rcases CO h with⟨rfl,hs⟩|⟨rfl,hs⟩
 ·rcases hs with rfl|rfl|rfl|rfl|rfl|rfl|rfl|rfl|rfl|rfl|rfl|rfl|rfl|rfl|rfl
  all_goals
   unfold lg Am at hm
   simp only[Int.reduceEq,↓reduceIte]at hm
   (repeat' split at hm)<;>omega
 ·rcases hs with rfl|rfl|rfl|rfl|rfl
  all_goals
   unfold lg Am at hm
   simp only[Int.reduceEq,↓reduceIte]at hm
   (repeat' split at hm)<;>omega
theorem aea{n:Int}(h0:0<=n)(h1:n<=25):0<=nV n/\nV n<=34:=by
 unfold nV
 repeat' split
 all_goals omega
theorem af7{n a:Int}(h0:0<=n)(h1:n<=19)(h:nV n=a):(a=0->n=0)/\(a=30->n=15)/\(a=5->n=5)/\(a=2->n=2)/\(a=7->n=9)/\(a=32->n=17)/\a≠42:=by
 unfold nV at h
 repeat' split at h
 all_goals omega
end Edict
namespace Go.Proofs.Z
open Go Go.Ev Edict
variable {vs:List Value} {h:H} {K:Value->H->Prop} {KP:List PanicEntry->H->Prop}
def RS(vs:List Value)(h:H)(K:Value->H->Prop):Prop:= ∃f:Int,vs=[.int .i64 (if f=0 then 0 else 1)]/\(f=0\/f=15)/\K (.int .i64 (nV f)) h
theorem RU(hC:RS vs h K):ma Tryz.prog 86 vs h K KP:=by
 obtain⟨f,rfl,hf,hK⟩:=hC
 refine kP 349 [(none,(.t 2))] (G:=(λ_ _ _ _ _=>False)) (λ_ _ _ _ _ h=>h.elim) Tryz.func86 (by kernel_rfl) (by conv=>lhs;cbv;try simp only[mF]) ?_
 rcases hf with rfl|rfl
 ·simp(disch:=first|omega|simp only[zz];try omega;done) only[↓reduceIte,go_sem];exact hK
 ·rw[ah (by decide)];simp(disch:=first|omega|simp only[zz];try omega;done) only[↓reduceIte,go_sem];exact hK
def IY(vs:List Value)(h:H)(K:Value->H->Prop):Prop:= ∃(u:U) (f:Int) (v:Value) (L:List Edict.Tok) (bad:nI),vs=[v,.agg #[.int .i64 bad.1,.int .i64 0,.int .i64 bad.2],.int .i64 (if f=0 then 0 else 1)]/\(f=0\/f=15)/\kM u h v L/\L.length<=65537/\(∀t∈L,0<=tK t)/\nk L bad/\
 ∀u' h',kG S0 u h u' h'->K (.agg (kT (mD f bad f 0 0 0 L).1 (mD f bad f 0 0 0 L).2).toArray) h'
def UX:mG:=λf vs h K _=>(f=86/\RS vs h K)\/(f=87/\ab5 vs h K)
theorem JJ:nz Tryz.prog UX:=mK RU (qd YX)
theorem EO(hC:IY vs h K):ma Tryz.prog 52 vs h K KP:=by
 obtain⟨u,f,v,L,bad,rfl,hf,iv,hlen,hk0,hgood,hK⟩:=hC
 refine kP 2427906267678083904387031 [((some (.c1 (.ldn 3) (.t 6))),(.o1 (.ldn 3) (.t 6)))] JJ Tryz.func52 (by kernel_rfl) (by conv=>lhs;cbv;try simp only[mF]) ?_
 obtain⟨ta,tc,rfl,-,-⟩:=iv.sl
 obtain⟨r,hr⟩:=kJ (mD f bad f 0 0 0 L)
 rw[<-hr]at hK
 obtain⟨md,hmd⟩:=kJ (α:=Int) (if f=0 then 0 else 1)
 rw[<-hmd]
 have p1:=kG.qZ S0 u h #[.int .i64 bad.1,.int .i64 0,.int .i64 bad.2] 44
 have F1:=kV.new (u:=u) (h:=h) [.int .i64 bad.1,.int .i64 0,.int .i64 bad.2] 44
 obtain⟨h1,hh1⟩:=kJ (h.push (.cells #[.int .i64 bad.1,.int .i64 0,.int .i64 bad.2] 44))
 obtain⟨u1,hu1⟩:=kJ (ub u h.size 0)
 have F1:kV u1 h1 h.size [.int .i64 bad.1,.int .i64 0,.int .i64 bad.2]:=by rw[hh1,hu1];exact F1
 rw[<-hh1,<-hu1]at p1
 have zh1:h1.size=h.size+1:=by rw[hh1];simp
 obtain⟨h2,u2,hh2,zh2,p2,R2⟩:=sJ u1 h1
 have F2:=F1.sZ p2
 have st2:=p1.tZ p2
 obtain⟨fb,hfb⟩:=kJ h.size
 obtain⟨rb,hrb⟩:=kJ h1.size
 rw[<-hfb]at F2
 rw[<-hrb]at R2
 have hrb':h.size<=rb:=by omega
 simp(disch:=first|omega|simp only[zz];try omega;done) only[↓reduceIte,go_sem]
 rw[<-hh1,<-hh2,<-hfb,show fb+1=rb by omega]
 refine kD (.inl ⟨rfl,f,by rw[hmd],hf,⟨kY,?_⟩⟩)
 obtain⟨I,hI⟩:=kJ (α:=Nat->lm->H->Prop) λk σ h'=> ∃(u':U) (s:Int) (c l t li te:Nat),σ 2= .int .i64 md/\σ 4= .pointer (some ⟨fb,0,none⟩)/\σ 6= .pointer (some ⟨rb,0,none⟩)/\σ 7= .int .i64 (nV s)/\σ 8= .int .i64 c/\σ 9= .int .i64 li/\σ 10= .int .i64 te/\σ 16= .slice ta L.length tc/\σ 17= .int .i64 L.length/\σ 18= .int .i64 k/\k<=L.length/\Jd f s c l t li te/\kG S0 u h u' h'/\kV u' h' fb [.int .i64 bad.1,.int .i64 0,.int .i64 bad.2]/\kV u' h' rb [.int .i64 0,.int .i64 0,.int .i64 0]/\mD f bad s c l t (L.drop k)=r/\nk (L.drop k) bad/\c<=k
 simp(disch:=first|omega|simp only[zz];try omega;done) only[↓reduceIte,go_sem,Vs]
 refine kH I (λk=>L.length - k) 0 (by rw[hI];exact⟨u2,f,0,0,0,0,0,by simp [kF],by simp [kF],by simp [kF],by simp [kF],by simp [kF],by simp [kF],by simp [kF],by simp [kF],by simp [kF],by simp [kF],by omega,⟨by unfold RZ;omega,by unfold xR;simp,by omega,by omega,λq=>by omega,λq=>by omega,λq=>by omega,λq=>by omega,by omega,by omega⟩,st2,F2,R2,by rw[eU];exact hr.symm,by rw[eU];exact hgood,by omega⟩) ?_
 clear hh1 hh2 F1 F2 R2 p1 p2 st2 hu1
 intro k σ h' hi
 rw[hI]at hi
 obtain⟨u',s,c,l,t,li,te,e2,e4,e6,e7,e8,e9,e10,e16,e17,e18,hk,J,st,F,R,hA,hg,hck⟩:=hi
 have F1:=F.1
 have R1:=R.1
 by_cases hlt:k<L.length
 case neg=>
  rw[dJ (by omega),mD]at hA
  obtain⟨w,hK'⟩:=tY (.int .i64 bad.1) (.int .i64 0) (.int .i64 bad.2) st R hrb' (λu' h' q=>by have:=hK u' h' q;rw[<-hA]at this;exact this)
  simp(disch:=first|omega|simp only[zz];try omega;done) only[↓reduceIte,go_sem,e4,e6,e17,e18,au (show¬(k:Int)<L.length by omega),F.at,F.2.1,R.2.1,R.2.2.1,w.at,w.2.1]
  exact hK'
 obtain⟨x,hx⟩:=uu hlt
 obtain⟨q,hq⟩: ∃q,L.drop k=x::q:=⟨L.drop (k+1),by rw[bK hlt];congr 1;rw[aL hlt]at hx;exact bu hx⟩
 have hq1:=(mI hq).2.2
 rw[hq]at hA hg
 have iw:=iv.mono st.ge
 obtain⟨pb,po,rfl,hpb,hpu,hpz,hpr⟩:=iw.row k x hx
 rw[mJ]at hpr
 simp only[lK,Bi,El,aG,aP]at hpr hpu hpz
 obtain⟨p0,p1,p2,p3,p4,p5⟩:=hpr
 obtain⟨h5',h6,u6,hh5,hh6,B5,B6,s6,hz6⟩:=kZ u' h' [.int .i64 0,str [],.int .i64 0,.int .i64 0,.int .i64 0,.int .i64 0] (lK x) 177 rfl
 simp only[lK]at hh6 B6
 have st6:=st.tZ s6
 have B51:=B5.1
 have B61:=B6.1
 have F6:=F.sZ s6
 have R6:=R.sZ s6
 have F61:=F6.1
 have R61:=R6.1
 have kx:=hk0 x (aI hx)
 have li16:=J.li16
 have te8:=J.te8
 obtain⟨s0,s19⟩:0<=s/\s<=19:=by have:=J.st;unfold RZ at this;omega
 simp(disch:=first|omega|simp only[zz];try omega;done) only[↓reduceIte,go_sem,e2,e7,e16,e17,e18,af (show(k:Int)<(L.length:Nat) by omega),p0,p1,p2,p3,p4,p5,<-hh5,<-hh6,B5.2.1,B5.2.2.1,B6.at,B6.2.1]
 refine kD (.inr ⟨rfl,f,s,x.1,by rw[hmd],J.st,kx,⟨kY,?_⟩⟩)
 obtain⟨n,hn⟩:=kJ (lg f s (tK x))
 have hn':lg f s x.1=n:=hn.symm
 rw[hn']
 have err: ∀e o:Int,r=(e,o)->kV u6 (kU h6 rb 0 [.int .i64 e,.int .i64 0,.int .i64 o]) rb [.int .i64 e,.int .i64 0,.int .i64 o]/\K (.agg #[.int .i64 e,.int .i64 0,.int .i64 o]) (kU h6 rb 0 [.int .i64 e,.int .i64 0,.int .i64 o]):=λe o he=>
  tY _ _ _ st6 R6 hrb' (λu' h' q=>by have:=hK u' h' q;rw[he]at this;exact this)
 by_cases hn1:n= -1
 ·rw[pE (by rw[<-hn];exact hn1)]at hA
  rw[hn1]
  by_cases Et:x.1=0
  ·obtain⟨w,hK'⟩:=err 21 x.2.2.2.2.1 (by rw[<-hA];unfold lF tK tO;rw[ay Et])
   simp(disch:=first|omega|simp only[zz];try omega;done) only[↓reduceIte,go_sem,e6,show nV (-1)= -1 from rfl,af Et,B6.at,B6.2.1,R6.2.1,R6.2.2.1,w.at,w.2.1]
   exact hK'
  ·obtain⟨w,hK'⟩:=err 20 x.2.2.2.2.1 (by rw[<-hA];unfold lF tK tO;rw[ah Et])
   simp(disch:=first|omega|simp only[zz];try omega;done) only[↓reduceIte,go_sem,e6,show nV (-1)= -1 from rfl,au Et,B6.at,B6.2.1,R6.2.1,R6.2.2.1,w.at,w.2.1]
   exact hK'
 by_cases hn26:n=26
 ·obtain⟨z1,z2⟩:=ab4 J.st (hn.symm.trans hn26)
  obtain⟨rfl,rfl⟩:=hg.last z1
  have ho:wY f (yA s (tK x) c) (Ao s (tK x) l) (Bd s (tK x) t)=0:=by
   rw[z1]
   have:=J.ov
   refine qL ?_ ?_ ?_
   ·unfold yA;rw[ah (by omega)];exact this
   ·unfold Ao;rw[ah (by omega),ah (by omega)];exact J.l16
   ·unfold Bd;rw[ah (by omega),ah (by omega)];exact J.t8
  rw[pG (n:=n) hn.symm hn1 rfl rfl rfl ho,mD]at hA
  obtain⟨w,hK'⟩:=err 0 0 hA.symm
  rw[hn26]
  simp(disch:=first|omega|simp only[zz];try omega;done) only[↓reduceIte,go_sem,e6,show nV 26=99 from rfl,R6.2.1,R6.2.2.1,w.at,w.2.1]
  exact hK'
 obtain⟨j1,j2,j3,j4⟩:=aec J (k:=tK x) (by rw[<-hn];exact hn1) (by rw[<-hn];exact hn26)
 rw[<-hn]at j2
 obtain⟨n0,n25⟩:=YW (f:=f) (s:=s) (k:=tK x) (by rw[<-hn];exact hn1)
 rw[<-hn]at n0 n25
 obtain⟨f0,f34⟩:=aea n0 (by omega)
 have g1:=au (show¬nV n<0 by omega)
 have g2:=au (show¬nV n=99 by omega)
 obtain⟨c',hc'⟩:=kJ (yA s (tK x) c)
 rw[<-hc']at j1 j2 j3 j4
 have over: ∀e,jO s c li te=e->e≠0->r=(e,x.2.2.2.2.1):=λe he h0=>by
  rw[<-hA,Cn (e:=e) (by rw[<-hn];exact hn1) (by rw[<-hc',j1,he]) h0];rfl
 have fin:jO s c li te=0-> ∀σ':lm,σ' 2= .int .i64 md->σ' 4= .pointer (some ⟨fb,0,none⟩)->σ' 6= .pointer (some ⟨rb,0,none⟩)->σ' 7= .int .i64 (nV n)->σ' 8= .int .i64 c'->σ' 9= .int .i64 (jL s li)->σ' 10= .int .i64 (jT s te)->σ' 16= .slice (some ⟨pb,po,none⟩) L.length tc->σ' 17= .int .i64 L.length->σ' 18= .int .i64 ((k+1:Nat):Int)->I (k+1) σ' h6:=λh0 σ' a2 a4 a6 a7 a8 a9 a10 a16 a17 a18=>by
  have Et:tK x≠0:=λz=>by
   have:n= -1\/n=26:=by
    rw[hn,z]
    rcases CO J.st with⟨rfl,hs⟩|⟨rfl,hs⟩
    ·rcases hs with rfl|rfl|rfl|rfl|rfl|rfl|rfl|rfl|rfl|rfl|rfl|rfl|rfl|rfl|rfl<;>decide
    ·rcases hs with rfl|rfl|rfl|rfl|rfl<;>decide
   omega
  rw[hI]
  refine⟨u6,n,c',Ao s (tK x) l,Bd s (tK x) t,jL s li,jT s te,a2,a4,a6,a7,a8,a9,a10,a16,a17,a18,hlt,j2 h0,st6,F6,R6,?_,by rw[hq1];exact hg.tail Et,?_⟩
  ·rw[hq1,<-hA,pG (n:=n) hn.symm hn1 hc'.symm rfl rfl (j1.trans h0)]
  ·by_cases q:s=0\/s=15
   ·rw[j3 q];omega
   ·rw[j4 q];omega
 clear hA j1 hg hn hn' hK hgood
 by_cases s0':s=0\/s=15
 ·have hcc:=j3 s0'
  have e1:(c:Int)+1=(c':Int):=by omega
  have hph:(s=0/\nV s=0)\/(s=15/\nV s=30):=by rcases s0' with rfl|rfl;exact .inl ⟨rfl,rfl⟩;exact .inr ⟨rfl,rfl⟩
  have jl:jL s li=0:=by unfold jL;rw[ay s0']
  have jt:jT s te=0:=by unfold jT;rw[ay (by omega)]
  rw[jl,jt]at fin
  by_cases ho:(s=0/\512<c')\/(s=15/\4096<c')
  ·obtain⟨w,hK'⟩:=err 24 _ (over 24 (by unfold jO;rw[ay (by omega)]) (by decide))
   rcases hph with⟨z,z'⟩|⟨z,z'⟩
   ·simp(disch:=first|omega|simp only[zz];try omega;done) only[↓reduceIte,go_sem,e6,e7,e8,z',g1,g2,e1,af (show(512:Int)<(c':Int) by omega),B6.at,B6.2.1,R6.2.1,R6.2.2.1,w.at,w.2.1]
    exact hK'
   ·simp(disch:=first|omega|simp only[zz];try omega;done) only[↓reduceIte,go_sem,e6,e7,e8,z',g1,g2,e1,af (show(4096:Int)<(c':Int) by omega),B6.at,B6.2.1,R6.2.1,R6.2.2.1,w.at,w.2.1]
    exact hK'
  ·have fin:=fin (by unfold jO;rw[ah (by omega),ah (by omega),ah (by omega)])
   rcases hph with⟨z,z'⟩|⟨z,z'⟩
   ·simp(disch:=first|omega|simp only[zz];try omega;done) only[↓reduceIte,go_sem,e7,e8,e18,z',g1,g2,e1,au (show¬(512:Int)<(c':Int) by omega)]
    exact⟨k+1,fin _ (by simp [kF,e2]) (by simp [kF,e4]) (by simp [kF,e6]) (by simp [kF]) (by simp [kF]) (by simp [kF]) (by simp [kF]) (by simp [kF,e16]) (by simp [kF,e17]) (by simp [kF]),by omega⟩
   ·simp(disch:=first|omega|simp only[zz];try omega;done) only[↓reduceIte,go_sem,e7,e8,e18,z',g1,g2,e1,au (show¬(4096:Int)<(c':Int) by omega)]
    exact⟨k+1,fin _ (by simp [kF,e2]) (by simp [kF,e4]) (by simp [kF,e6]) (by simp [kF]) (by simp [kF]) (by simp [kF]) (by simp [kF]) (by simp [kF,e16]) (by simp [kF,e17]) (by simp [kF]),by omega⟩
 have hcc:=j4 s0'
 rw[hcc]at fin
 by_cases s5:s=5
 ·have jl:jL s li=li+1:=by unfold jL;rw[ah s0',ay s5]
  have jt:jT s te=0:=by unfold jT;rw[ay (by omega)]
  rw[jl,jt]at fin
  have z':nV s=5:=by rw[s5];rfl
  by_cases ho:16<li+1
  ·obtain⟨w,hK'⟩:=err 23 _ (over 23 (by unfold jO;rw[ah (by omega),ay ⟨s5,ho⟩]) (by decide))
   simp(disch:=first|omega|simp only[zz];try omega;done) only[↓reduceIte,go_sem,e6,e7,e9,z',g1,g2,af (show(16:Int)<(li:Int)+1 by omega),B6.at,B6.2.1,R6.2.1,R6.2.2.1,w.at,w.2.1]
   exact hK'
  ·have fin:=fin (by unfold jO;rw[ah (by omega),ah (by omega),ah (by omega)])
   simp(disch:=first|omega|simp only[zz];try omega;done) only[↓reduceIte,go_sem,e7,e9,e18,z',g1,g2,au (show¬(16:Int)<(li:Int)+1 by omega)]
   exact⟨k+1,fin _ (by simp [kF,e2]) (by simp [kF,e4]) (by simp [kF,e6]) (by simp [kF]) (by simp [kF,e8]) (by simp [kF]) (by simp [kF]) (by simp [kF,e16]) (by simp [kF,e17]) (by simp [kF]),by omega⟩
 have jl:jL s li=li:=by unfold jL;rw[ah s0',ah s5]
 rw[jl]at fin
 by_cases s2:s=2\/s=9\/s=17
 ·have jt:jT s te=te+1:=by unfold jT;rw[ah (by omega),ay s2]
  rw[jt]at fin
  have z':nV s=2\/nV s=7\/nV s=32:=by rcases s2 with rfl|rfl|rfl;exact .inl rfl;exact .inr (.inl rfl);exact .inr (.inr rfl)
  by_cases ho:8<te+1
  ·obtain⟨w,hK'⟩:=err 22 _ (over 22 (by unfold jO;rw[ah (by omega),ah (by omega),ay ⟨s2,ho⟩]) (by decide))
   rcases z' with z'|z'|z'
   all_goals
    simp(disch:=first|omega|simp only[zz];try omega;done) only[↓reduceIte,go_sem,e6,e7,e10,z',g1,g2,af (show(8:Int)<(te:Int)+1 by omega),B6.at,B6.2.1,R6.2.1,R6.2.2.1,w.at,w.2.1]
    exact hK'
  ·have fin:=fin (by unfold jO;rw[ah (by omega),ah (by omega),ah (by omega)])
   rcases z' with z'|z'|z'
   all_goals
    simp(disch:=first|omega|simp only[zz];try omega;done) only[↓reduceIte,go_sem,e7,e10,e18,z',g1,g2,au (show¬(8:Int)<(te:Int)+1 by omega)]
    exact⟨k+1,fin _ (by simp [kF,e2]) (by simp [kF,e4]) (by simp [kF,e6]) (by simp [kF]) (by simp [kF,e8]) (by simp [kF,e9]) (by simp [kF]) (by simp [kF,e16]) (by simp [kF,e17]) (by simp [kF]),by omega⟩
 ·have jt:jT s te=te:=by unfold jT;rw[ah (by omega),ah s2]
  rw[jt]at fin
  have fin:=fin (by unfold jO;rw[ah (by omega),ah (by omega),ah (by omega)])
  obtain⟨a,ha⟩: ∃a,nV s=a:=⟨_,rfl⟩
  obtain⟨y1,y2,y3,y4,y5,y6,y7⟩:=af7 s0 s19 ha
  simp(disch:=first|omega|simp only[zz];try omega;done) only[↓reduceIte,go_sem,e7,e18,ha,g1,g2,au (show¬a=0 by omega),au (show¬a=30 by omega),au (show¬a=5 by omega),au (show¬a=2 by omega),au (show¬a=7 by omega),au (show¬a=32 by omega),au y7]
  exact⟨k+1,fin _ (by simp [kF,e2]) (by simp [kF,e4]) (by simp [kF,e6]) (by simp [kF]) (by simp [kF,e8]) (by simp [kF,e9]) (by simp [kF,e10]) (by simp [kF,e16]) (by simp [kF,e17]) (by simp [kF]),by omega⟩
end Go.Proofs.Z
namespace Edict
theorem RQ: ∀{l:List ll} {f:Bool} {t:ll},Zc f (l++[t])=Zc f l++[uf (if f=true/\l=[]then 5 else 7),Ov t]
 |[],f,t=>by cases f<;>rfl
 |x::l,f,t=>by
  rw[bO,Zc,RQ,Zc]
  simp
theorem NT: ∀{l:List ll} {f:Bool},(Zc f l).length=2*l.length
 |[],f=>rfl
 |x::l,f=>by rw[Zc];simp only[aM,NT];omega
theorem xZ(a:lH):(Od a).length<=2*a.2.1.length+2:=by
 unfold Od
 rw[aM,aN,NT]
 split<;>simp
end Edict
namespace Go.Proofs.Z
open Go Go.Ev Edict
variable {vs:List Value} {h:H} {K:Value->H->Prop} {KP:List PanicEntry->H->Prop}
theorem ad9{u u':U}{h h':H}{K:Value->H->Prop}{b:Nat}{cs:List Value}(l:List Value)(v:Value)(st:kG S0 u h u' h')(B:kV u' h' b cs)(hl:l.length=cs.length)(hb:h.size<=b)(hK: ∀u' h',kG S0 u h u' h'->K v h'):kV u' (kU h' b 0 l) b l/\K v (kU h' b 0 l):=
 ⟨B.sets hl,hK _ _ (st.rZ (b:=b) (o:=0) (l:=l) (.inl hb) (by rw[B.2.2.2.1];exact az _) (by rw[B.2.1,hl];omega))⟩
theorem kL(u:U)(h:H)(cs:List Value)(T:TypeId): ∃(h1:H) (u1:U),h1=h.push (.cells cs.toArray T)/\h1.size=h.size+1/\kG S0 u h u1 h1/\kV u1 h1 h.size cs:=
 ⟨_,ub u h.size 0,rfl,by simp,kG.qZ S0 u h cs.toArray T,kV.new (u:=u) (h:=h) cs T⟩
def NU(vs:List Value)(h:H)(K:Value->H->Prop):Prop:= ∃(u:U) (k:Int),vs=[.int .i64 k]/\ ∀u' h',kG S0 u h u' h'->K (.agg (lK (uf k)).toArray) h'
theorem Ea(hC:NU vs h K):ma Tryz.prog 90 vs h K KP:=by
 obtain⟨u,k,rfl,hK⟩:=hC
 refine kP 5 [((some (.c1 (.ldn 6) (.t 2))),(.o1 (.ldn 6) (.t 2)))] (G:=(λ_ _ _ _ _=>False)) (λ_ _ _ _ _ h=>h.elim) Tryz.func90 (by kernel_rfl) (by conv=>lhs;cbv;try simp only[mF]) ?_
 obtain⟨h1,u1,hh1,zh,p1,B⟩:=kL u h lM 177
 simp only[lM]at hh1 B
 have B1:=B.1
 obtain⟨w,hK'⟩:=ad9 [.int .i64 k,str [],.int .i64 0,.int .i64 0,.int .i64 0,.int .i64 (-1)] (.agg (lK (uf k)).toArray) p1 B rfl (aH _) hK
 simp only[lK,uf]at hK'
 simp(disch:=first|omega|simp only[zz];try omega;done) only[↓reduceIte,go_sem,<-hh1,B.2.1,B.2.2.1,w.at,w.2.1]
 exact hK'
def BA(vs:List Value)(h:H)(K:Value->H->Prop):Prop:= ∃(u:U) (t:ll),vs=[.agg (lW t).toArray]/\ ∀u' h',kG S0 u h u' h'->K (.agg (lK (Ov t)).toArray) h'
theorem AF(hC:BA vs h K):ma Tryz.prog 114 vs h K KP:=by
 obtain⟨u,t,rfl,hK⟩:=hC
 refine kP 5487 [((some (.c1 (.ldn 6) (.t 2))),(.o1 (.ldn 6) (.t 2)))] (G:=(λ_ _ _ _ _=>False)) (λ_ _ _ _ _ h=>h.elim) Tryz.func114 (by kernel_rfl) (by conv=>lhs;cbv;try simp only[mF]) ?_
 have hK': ∀k,kdT t.1=k-> ∀u' h',kG S0 u h u' h'->K (.agg #[.int .i64 k,str t.2.2.1,.int .i64 t.2.1,.int .i64 0,.int .i64 t.2.2.2,.int .i64 0]) h':=λk e u' h' st=>by
  have:=hK u' h' st
  simp only[lK,Ov,e]at this
  exact this
 unfold kdT at hK'
 simp only[lW]
 simp(disch:=first|omega|simp only[zz];try omega;done) only[↓reduceIte,go_sem]
 refine⟨λq=> ?_,λq1=>⟨λq=> ?_,λq2=>⟨λq=> ?_,λq3=>⟨λq=> ?_,λq4=> ?_⟩⟩⟩⟩
 ·exact hK' 3 (by rw[ay q]) _ _ (by repeat (first|exact kG.refl _ _ _|assumption|apply kG.pZ))
 ·exact hK' 1 (by rw[ah q1,ay q]) _ _ (by repeat (first|exact kG.refl _ _ _|assumption|apply kG.pZ))
 ·exact hK' 4 (by rw[ah q1,ah q2,ay q]) _ _ (by repeat (first|exact kG.refl _ _ _|assumption|apply kG.pZ))
 ·exact hK' 2 (by rw[ah q1,ah q2,ah q3,ay q]) _ _ (by repeat (first|exact kG.refl _ _ _|assumption|apply kG.pZ))
 ·exact hK' 0 (by rw[ah q1,ah q2,ah q3,ah q4]) _ _ (by repeat (first|exact kG.refl _ _ _|assumption|apply kG.pZ))
def BF(vs:List Value)(h:H)(K:Value->H->Prop):Prop:= ∃(u:U) (a:lH) (v:Value),vs=[.agg #[str a.1,v,.int .i64 a.2.2]]/\kM u h v a.2.1/\a.2.1.length<=8/\ ∀u' h' w,kG S0 u h u' h'->mr h.size u' h' w (Od a)->K w h'
def NV:mG:=λf vs h K _=>(f=90/\NU vs h K)\/(f=114/\BA vs h K)
theorem Fj:nz Tryz.prog NV:=mK Ea (qd AF)
theorem AL(hC:BF vs h K):ma Tryz.prog 88 vs h K KP:=by
 obtain⟨u,a,v,rfl,iv,h8,hK⟩:=hC
 refine kP 549758033983 [(none,(.t 2))] Fj Tryz.func88 (by kernel_rfl) (by conv=>lhs;cbv;try simp only[mF]) ?_
 obtain⟨ta,tc,rfl,-,-⟩:=iv.sl
 obtain⟨h1,u1,hh1,zh1,p1,A1⟩:=kL u h [str a.1,.slice ta a.2.1.length tc,.int .i64 a.2.2] 52
 obtain⟨b1,hb1⟩:=kJ h.size
 rw[<-hb1]at A1
 have A11:=A1.1
 have Df:Rep.rep u1 h1 ((1,a.1,0,0,a.2.2,0):Edict.Tok) (lK (1,a.1,0,0,a.2.2,0)):=by rw[mJ]
 have o2:=mr.made (k:=h.size) u1 h1 (by omega) 177 [((1,a.1,0,0,a.2.2,0):Edict.Tok)] (lK (1,a.1,0,0,a.2.2,0)) rfl (by simp only[bz];decide) (λi y hy=>by
  match i,hy with
  |0,hy=>cases hy;exact Df
  |i+1,hy=>simp at hy)
 have p2:=kG.push S0 u1 h1 (lK (1,a.1,0,0,a.2.2,0)).toArray 177 (1*Rep.sz Edict.Tok)
 obtain⟨h2,hh2⟩:=kJ (h1.push (.cells (lK (1,a.1,0,0,a.2.2,0)).toArray 177))
 obtain⟨u2,hu2⟩:=kJ (ub u1 h1.size (1*Rep.sz Edict.Tok))
 rw[<-hh2,<-hu2]at p2
 have o2:mr h.size u2 h2 (.slice (some ⟨h1.size,0,none⟩) 1 1) [((1,a.1,0,0,a.2.2,0):Edict.Tok)]:=by rw[hh2,hu2];exact o2
 simp only[lK]at hh2
 have zh2:h2.size=h1.size+1:=by rw[hh2];simp
 simp(disch:=first|omega|simp only[zz];try omega;done) only[↓reduceIte,go_sem,<-hh1,<-hb1,A1.at,A1.2.1]
 rw[<-hh2]
 have st2:=p1.tZ p2
 have A2:=A1.sZ p2
 obtain⟨I,hI⟩:=kJ (α:=Nat->lm->H->Prop) λk σ h'=> ∃(u':U) (w:Value),σ 1= .pointer (some ⟨b1,0,none⟩)/\σ 3=w/\σ 13= .slice ta a.2.1.length tc/\σ 14= .int .i64 a.2.1.length/\σ 15= .int .i64 k/\k<=a.2.1.length/\kG S0 u h u' h'/\kV u' h' b1 [str a.1,.slice ta a.2.1.length tc,.int .i64 a.2.2]/\mr h.size u' h' w ((1,a.1,0,0,a.2.2,0)::Zc true (a.2.1.take k))/\ ¬kN w b1
 refine kH I (λk=>a.2.1.length - k) 0 (by rw[hI];exact⟨u2,_,by simp [kF],by simp [kF],by simp [kF],by simp [kF],by simp [kF],by omega,st2,A2,o2,fun⟨o,n,c,e⟩=>by cases e;omega⟩) ?_
 intro k σ h' hi
 rw[hI]at hi
 obtain⟨u',w,e1,e3,e13,e14,e15,hk,st,A,ow,hnb⟩:=hi
 have AA:=A.1
 obtain⟨M,hM⟩:=kJ (α:=List Edict.Tok) ((1,a.1,0,0,a.2.2,0)::Zc true (a.2.1.take k))
 have hlen:M.length=2*k+1:=by rw[hM,aM,NT,aT];omega
 rw[<-hM]at ow
 obtain⟨wa,wc,rfl,-,-⟩:=ow.sl
 by_cases hlt:k<a.2.1.length
 case neg=>
  rw[aK (by omega)]at hM
  have hke:k=a.2.1.length:=by omega
  by_cases h0:a.2.1.length=0
  ·have hnil:a.2.1=[]:=List.length_eq_zero_iff.1 h0
   simp(disch:=first|omega|simp only[zz];try omega;done) only[↓reduceIte,go_sem,e1,e3,e14,e15,au (show¬(k:Int)<a.2.1.length by omega),A.at,A.2.1,au (show¬(0:Int)<(a.2.1.length:Int) by omega)]
   exact hK _ _ _ st (by unfold Od;rw[ay hnil,dU,<-hM];exact ow)
  ·have hnil:a.2.1≠[]:=λq=>h0 (by rw[q];rfl)
   simp(disch:=first|omega|simp only[zz];try omega;done) only[↓reduceIte,go_sem,e1,e14,e15,au (show¬(k:Int)<a.2.1.length by omega),A.at,A.2.1,af (show(0:Int)<(a.2.1.length:Int) by omega)]
   refine kD (.inl ⟨rfl,u',6,rfl,fun(u3:U) (h3:H) s3=>⟨kY,?_⟩⟩)
   have o3:=ow.sZ s3
   have z3:=(st.tZ s3).ge.sz
   simp only[lK,uf]
   simp(disch:=first|omega|simp only[zz];try omega;done) only[↓reduceIte,go_sem,e3]
   refine kK (by simp only[]) o3 (x:=uf 6) (by rw[mJ];rfl) rfl rfl z3 (by omega) λa4 n4 c4 u4 h4 o4 s4 hO4=>⟨kY,?_⟩
   simp(disch:=first|omega|simp only[zz];try omega;done) only[↓reduceIte,go_sem,Vs]
   refine hK _ _ _ ((st.tZ s3).own s4 λb q=>o3.ge q) ?_
   unfold Od
   rw[ah hnil]
   rw[hM]at o4
   exact o4
 obtain⟨x,hx⟩: ∃x,a.2.1[k]? =some x:=⟨a.2.1[k],by simp [hlt]⟩
 have hne:a.2.1.take (k+1)=a.2.1.take k++[x]:=by rw[aS,hx];rfl
 have iw:=iv.mono st.ge
 obtain⟨pb,po,rfl,hpb,hpu,hpz,hpr⟩:=iw.row k x hx
 rw[mV]at hpr
 simp only[lW,uR,uH,aG,aP]at hpr hpu hpz
 obtain⟨p0,p1,p2',p3⟩:=hpr
 obtain⟨h5',h6,u6,hh5,hh6,B5,B6,s6,hz6⟩:=kZ u' h' [.int .i64 0,.int .i64 0,str [],.int .i64 0] (lW x) 98 rfl
 simp only[lW]at hh6 B6
 have st6:=st.tZ s6
 have A6:=A.sZ s6
 have o6:=ow.sZ s6
 have B51:=B5.1
 have B61:=B6.1
 have A61:=A6.1
 obtain⟨q,hq⟩:=kJ (α:=Int) (if k=0 then 5 else 7)
 have hsn:Zc true (a.2.1.take (k+1))=Zc true (a.2.1.take k)++[uf q,Ov x]:=by
  rw[hne,RQ,hq]
  congr 3
  by_cases hk0:k=0
  ·subst hk0;simp
  ·rw[ah hk0,ah]
   rintro ⟨-,e⟩
   have:=bL List.length e
   rw[aT,bg]at this
   omega
 rcases dG (k=0)with hk0|hk0
 all_goals
  first
   |(rw[ay hk0]at hq
     simp(disch:=first|omega|simp only[zz];try omega;done) only[↓reduceIte,go_sem,e13,e14,e15,af (show(k:Int)<(a.2.1.length:Nat) by omega),p0,p1,p2',p3,<-hh5,<-hh6,B5.2.1,B5.2.2.1,af (show(k:Int)=0 by omega)])
   |(rw[ah hk0]at hq
     simp(disch:=first|omega|simp only[zz];try omega;done) only[↓reduceIte,go_sem,e13,e14,e15,af (show(k:Int)<(a.2.1.length:Nat) by omega),p0,p1,p2',p3,<-hh5,<-hh6,B5.2.1,B5.2.2.1,au (show¬(k:Int)=0 by omega)])
  refine kD (.inl ⟨rfl,u6,q,by rw[hq],fun(u7:U) (h7:H) s7=>⟨kY,?_⟩⟩)
  have o7:=o6.sZ s7
  have z7:=(st6.tZ s7).ge.sz
  simp only[lK,uf]
  simp(disch:=first|omega|simp only[zz];try omega;done) only[↓reduceIte,go_sem,e3]
  refine kK (by simp only[]) o7 (x:=uf q) (by rw[mJ];rfl) rfl rfl z7 (by omega) λa8 n8 c8 u8 h8' o8 s8 hO8=>⟨kY,?_⟩
  have st8:=(st6.tZ s7).own s8 λb q=>o7.ge q
  have A8:=(A6.sZ s7).step s8 hnb
  have A81:=A8.1
  have z8:=st8.ge.sz
  have B8:=(B6.sZ s7).step s8 (λq=>by have:=ow.lt q;omega)
  have B81:=B8.1
  have hb8: ¬kN (.slice a8 n8 c8) b1:=λq=>by
   rcases hO8 _ q with q|q
   ·exact hnb q
   ·have:=(A6.sZ s7).1;omega
  obtain⟨M2,hM2⟩:=kJ (α:=List Edict.Tok) (M++[uf q])
  have hM2l:M2.length=2*k+2:=by rw[hM2,aN,hlen];rfl
  rw[<-hM2]at o8
  obtain⟨_,_,hme,-,-⟩:=o8.sl
  simp only[Value.slice.injEq]at hme
  obtain⟨rfl,rfl,rfl⟩:=hme
  simp(disch:=first|omega|simp only[zz];try omega;done) only[↓reduceIte,go_sem,B8.at,B8.2.1]
  refine kD (.inr ⟨rfl,u8,x,rfl,fun(u9:U) (h9:H) s9=>⟨kY,?_⟩⟩)
  have o9:=o8.sZ s9
  have z9:=(st8.tZ s9).ge.sz
  simp only[lK]
  simp(disch:=first|omega|simp only[zz];try omega;done) only[↓reduceIte,go_sem,Vs]
  refine kK (by simp only[]) o9 (x:=Ov x) (by rw[mJ];rfl) rfl rfl z9 (by omega) λaA nA cA uA hA oA sA hOA=>⟨kY,?_⟩
  have stA:=(st8.tZ s9).own sA λb q=>o9.ge q
  have AA2:=(A8.sZ s9).step sA hb8
  simp(disch:=first|omega|simp only[zz];try omega;done) only[↓reduceIte,go_sem,e15]
  refine⟨k+1,?_,by omega⟩
  rw[hI]
  refine⟨uA,.slice aA nA cA,by simp [kF,e1],by simp [kF],by simp [kF,e13],by simp [kF,e14],by simp [kF],hlt,stA,AA2,?_,λq=> ?_⟩
  ·rw[hsn,<-bO,<-hM]
   rw[hM2,bB]at oA
   exact oA
  ·rcases hOA _ q with q|q
   ·exact hb8 q
   ·have:=(A8.sZ s9).1;omega
end Go.Proofs.Z
namespace Edict
theorem RP: ∀{l:List lV} {f:Bool} {x:lV},Jm f (l++[x])=Jm f l++((if f=true/\l=[]then []else [uf 7])++Zd x)
 |[],f,x=>by cases f<;>simp [Jm]
 |y::l,f,x=>by
  rw[bO,Jm,RP,Jm]
  simp
theorem ad8(x:lV)(h:x.2.1.2.1.length<=8):(Zd x).length<=19:=by
 have:=xZ x.2.1
 unfold Zd
 split
 ·omega
 ·split
  ·simp only[aM];omega
  ·simp
theorem FR: ∀{l:List lV} {f:Bool},(∀x∈l,x.2.1.2.1.length<=8)->(Jm f l).length<=20*l.length
 |[],f,_=>by simp [Jm]
 |x::l,f,h=>by
  have h1:=ad8 x (h x (by simp))
  have h2:=FR (l:=l) (f:=false) (λy q=>h y (by simp [q]))
  rw[Jm]
  simp only[aN,aM]
  split<;>simp<;>omega
end Edict
namespace Go.Proofs.Z
open Go Go.Ev Edict
def IX(vs:List Value)(h:H)(K:Value->H->Prop):Prop:= ∃(u:U) (b:List lV) (v:Value),vs=[v]/\kM u h v b/\b.length<=16/\(∀x∈b,yf x/\wB x)/\ ∀u' h' w,kG S0 u h u' h'->mr h.size u' h' w (Jm true b)->K (.tuple #[w,.bool true]) h'
def NS:mG:=λf vs h K _=>(f=90/\NU vs h K)\/(f=114/\BA vs h K)\/(f=88/\BF vs h K)
theorem Fh:nz Tryz.prog NS:=mK Ea (mK AF (qd AL))
theorem JI{vs:List Value}{h:H}{K:Value->H->Prop}{KP:List PanicEntry->H->Prop}(hC:IX vs h K):ma Tryz.prog 89 vs h K KP:=by
 obtain⟨u,b,v,rfl,iv,h16,hfine,hK⟩:=hC
 refine kP 79228163695180780846396280829 [(none,(.t 2)),(none,(.t 3))] Fh Tryz.func89 (by kernel_rfl) (by apply c0 rfl;repeat' first|apply cS|apply cK|apply cL|apply cX|(apply cC (by decide))|(conv=>lhs;cbv;try simp only[mF])) ?_
 obtain⟨ta,tc,rfl,-,-⟩:=iv.sl
 simp(disch:=first|omega|simp only[zz];try omega;done) only[↓reduceIte,go_sem]
 obtain⟨I,hI⟩:=kJ (α:=Nat->lm->H->Prop) λk σ h'=> ∃(u':U) (w:Value),σ 4=w/\σ 8= .slice ta b.length tc/\σ 9= .int .i64 b.length/\σ 10= .int .i64 k/\k<=b.length/\kG S0 u h u' h'/\mr h.size u' h' w (Jm true (b.take k))
 refine kH I (λk=>b.length - k) 0 (by rw[hI];exact⟨u,_,by simp [kF],by simp [kF],by simp [kF],by simp [kF],by omega,kG.refl _ _ _,.nil _ _ _⟩) ?_
 intro k σ h' hi
 rw[hI]at hi
 obtain⟨u',w,e4,e8,e9,e10,hk,st,ow⟩:=hi
 obtain⟨M,hM⟩:=kJ (α:=List Edict.Tok) (Jm true (b.take k))
 have hlen:M.length<=320:=by
  have:=FR (l:=b.take k) (f:=true) (λx q=>(hfine x (ed q)).1.1)
  rw[aT]at this
  rw[hM];omega
 rw[<-hM]at ow
 obtain⟨wa,wc,rfl,-,-⟩:=ow.sl
 by_cases hlt:k<b.length
 case neg=>
  rw[aK (by omega)]at hM
  simp(disch:=first|omega|simp only[zz];try omega;done) only[↓reduceIte,go_sem,e4,e9,e10,au (show¬(k:Int)<b.length by omega)]
  exact hK _ _ _ st (by rw[<-hM];exact ow)
 obtain⟨x,hx⟩:=uu hlt
 have hne:b.take (k+1)=b.take k++[x]:=by rw[aS,hx];rfl
 obtain⟨hxf,hxt⟩:=hfine x (aI hx)
 have hxl:=hxf.1
 have hsn:Jm true (b.take (k+1))=M++((if k=0 then []else [uf 7])++Zd x):=by
  rw[hne,RP,<-hM]
  congr 2
  by_cases hk0:k=0
  ·subst hk0;simp
  ·rw[ah hk0,ah]
   rintro ⟨-,e⟩
   have:=bL List.length e
   rw[aT,bg]at this
   omega
 have iw:=iv.mono st.ge
 obtain⟨pb,po,rfl,hpb,hpu,hpz,hpr⟩:=iw.row k x hx
 rw[tQ]at hpr
 obtain⟨xv,hpr,ixv⟩:=hpr
 obtain⟨xa,xc,rfl,-,-⟩:=ixv.sl
 simp only[nL,yS,xF,aG,aP]at hpr hpu hpz
 obtain⟨p0,p1,p2,p3,p4,p5,p6,p7,p8,p9,p10,p11,p12,p13⟩:=hpr
 obtain⟨h5',h6,u6,hh5,hh6,B5,B6,s6,hz6⟩:=kZ u' h' [.int .i64 0,str [],.slice none 0 0,.int .i64 0,.int .i64 0,.int .i64 0,.int .i64 0,str [],.int .i64 0,.int .i64 0,.int .i64 0,str [],.int .i64 0,.int .i64 0] (nL x (.slice xa x.2.1.2.1.length xc)) 100 rfl
 simp only[nL]at hh6 B6
 have st6:=st.tZ s6
 have o6:=ow.sZ s6
 have ix6:=ixv.mono s6.ge
 have B51:=B5.1
 have B61:=B6.1
 obtain⟨xb,hxb⟩:=kJ h'.size
 rw[<-hxb]at B5 B51 B6 B61 hh6
 have hnx: ∀{b':Nat},kN (.slice wa M.length wc) b'->b'≠xb:=λq e=>by have:=ow.lt q;omega
 have fin: ∀(u9:U) (h9:H) (w9:Value) (σ':lm),kG S0 u h u9 h9->mr h.size u9 h9 w9 (Jm true (b.take (k+1)))->σ' 4=w9->σ' 8= .slice (some ⟨pb,po,none⟩) b.length tc->σ' 9= .int .i64 b.length->σ' 10= .int .i64 ((k+1:Nat):Int)->I (k+1) σ' h9:=λu9 h9 w9 σ' a1 a2 a3 a4 a5 a6=>by
  rw[hI];exact⟨u9,w9,a3,a4,a5,a6,hlt,a1,a2⟩
 -- a new token is put behind
 rcases hxt with⟨x1,⟨b1,b2,b3⟩,x2⟩|⟨x1,b1,b2,b3⟩|⟨x1,x2,x3⟩
 ·rw[b1,b2,b3,x1,x2]at B6
  simp only[lS]at B6
  have hft:Zd x=Od x.2.1:=ay x1
  rw[hft]at hsn
  have haft:=xZ x.2.1
  rcases dG (k=0)with hk0|hk0
  all_goals
   first
    |(rw[ay hk0,bI]at hsn
      simp(disch:=first|omega|simp only[zz];try omega;done) only[↓reduceIte,go_sem,e8,e9,e10,af (show(k:Int)<(b.length:Nat) by omega),p0,p1,p2,p3,p4,p5,p6,p7,p8,p9,p10,p11,p12,p13,<-hh5,<-hh6,B5.2.1,B5.2.2.1,<-hxb,au (show¬(0:Int)<(k:Int) by omega),B6.at,B6.2.1]
      obtain⟨h8,h8e⟩:=kJ h6
      obtain⟨u8,u8e⟩:=kJ u6
      obtain⟨M1,M1e⟩:=kJ M
      obtain⟨a1,a1e⟩:=kJ wa
      obtain⟨c1,c1e⟩:=kJ wc
      rw[<-h8e,<-u8e]at B6 o6 st6 ix6
      rw[<-M1e,<-a1e,<-c1e]at o6 e4 hnx
      rw[<-M1e]at hsn hlen
      have st8:=st6
      have o8:=o6
      have B8:=B6
      have ix8:=ix6
      have hn8: ¬kN (.slice a1 M1.length c1) xb:=λq=>hnx q rfl
      have hlen1:M1.length<=321:=by omega
      have e4':=e4
      rw[<-h8e]
      (try rw[<-M1e])
      (try rw[<-a1e])
      (try rw[<-c1e]))
    |(rw[ah hk0]at hsn
      simp(disch:=first|omega|simp only[zz];try omega;done) only[↓reduceIte,go_sem,e8,e9,e10,af (show(k:Int)<(b.length:Nat) by omega),p0,p1,p2,p3,p4,p5,p6,p7,p8,p9,p10,p11,p12,p13,<-hh5,<-hh6,B5.2.1,B5.2.2.1,<-hxb,af (show(0:Int)<(k:Int) by omega)]
      refine kD (.inl ⟨rfl,u6,7,rfl,fun(u7:U) (h7:H) s7=>⟨kY,?_⟩⟩)
      have o7:=o6.sZ s7
      have z7:=(st6.tZ s7).ge.sz
      simp only[lK,uf]
      simp(disch:=first|omega|simp only[zz];try omega;done) only[↓reduceIte,go_sem,e4]
      refine kK (by simp only[]) o7 (x:=uf 7) (by rw[mJ];rfl) rfl rfl z7 (by omega) λa1 n1 c1 u8 h8 o8 s8 hO8=>⟨kY,?_⟩
      have st8:=(st6.tZ s7).own s8 λb q=>o7.ge q
      have B8:=(B6.sZ s7).step s8 (λq=>hnx q rfl)
      have ix8:=(ix6.mono s7.ge).mono s8.ge
      have hn8: ¬kN (.slice a1 n1 c1) xb:=λq=>by
       rcases hO8 _ q with q|q
       ·exact hnx q rfl
       ·have:=(B6.sZ s7).1;omega
      obtain⟨M1,hM1⟩:=kJ (α:=List Edict.Tok) (M++[uf 7])
      have hlen1:M1.length<=321:=by rw[hM1,aN,bz];omega
      rw[<-hM1]at o8
      obtain⟨_,_,hme,-,-⟩:=o8.sl
      simp only[Value.slice.injEq]at hme
      obtain⟨rfl,rfl,rfl⟩:=hme
      rw[<-bB,<-hM1]at hsn
      have B81:=B8.1
      simp(disch:=first|omega|simp only[zz];try omega;done) only[↓reduceIte,go_sem,B8.at,B8.2.1])
   have B81:=B8.1
   have z8:=st8.ge.sz
   refine kD (.inr (.inr ⟨rfl,u8,x.2.1,_,rfl,ix8,hxl,fun(uA:U) (hA:H) wA sA oA=>⟨kY,?_⟩⟩))
   have o9:=o8.sZ sA
   have st9:=st8.tZ sA
   have z9:=st9.ge.sz
   obtain⟨aA,cA,rfl,-,-⟩:=oA.sl
   simp(disch:=first|omega|simp only[zz];try omega;done) only[↓reduceIte,go_sem,e4]
   refine qY o9 oA.iZ rfl rfl z9 (by omega) λaB nB cB uB hB oB sB=>⟨kY,?_⟩
   have stB:=st9.own sB λb q=>o9.ge q
   simp(disch:=first|omega|simp only[zz];try omega;done) only[↓reduceIte,go_sem,e10]
   exact⟨k+1,fin uB hB _ _ stB (by rw[hsn];exact oB) (by simp [kF]) (by simp [kF,e8]) (by simp [kF,e9]) (by simp [kF]),by omega⟩
 ·rw[b1,b2,b3,x1]at B6
  simp only[lS]at B6
  have hft:Zd x=(10,[],0,0,x.2.2.2.2.2,0)::Od x.2.1:=by unfold Zd;rw[ah (by omega),ay x1]
  rw[hft]at hsn
  have haft:=xZ x.2.1
  rcases dG (k=0)with hk0|hk0
  all_goals
   first
    |(rw[ay hk0,bI]at hsn
      simp(disch:=first|omega|simp only[zz];try omega;done) only[↓reduceIte,go_sem,e4,e8,e9,e10,af (show(k:Int)<(b.length:Nat) by omega),p0,p1,p2,p3,p4,p5,p6,p7,p8,p9,p10,p11,p12,p13,<-hh5,<-hh6,B5.2.1,B5.2.2.1,<-hxb,au (show¬(0:Int)<(k:Int) by omega),B6.at,B6.2.1]
      obtain⟨h8,h8e⟩:=kJ h6
      obtain⟨u8,u8e⟩:=kJ u6
      obtain⟨M1,M1e⟩:=kJ M
      obtain⟨a1,a1e⟩:=kJ wa
      obtain⟨c1,c1e⟩:=kJ wc
      rw[<-h8e,<-u8e]at B6 o6 st6 ix6
      rw[<-M1e,<-a1e,<-c1e]at o6 e4 hnx
      rw[<-M1e]at hsn hlen
      have st8:=st6
      have o8:=o6
      have B8:=B6
      have ix8:=ix6
      have hn8: ¬kN (.slice a1 M1.length c1) xb:=λq=>hnx q rfl
      have hlen1:M1.length<=321:=by omega
      have e4':=e4
      rw[<-h8e]
      (try rw[<-M1e])
      (try rw[<-a1e])
      (try rw[<-c1e]))
    |(rw[ah hk0]at hsn
      simp(disch:=first|omega|simp only[zz];try omega;done) only[↓reduceIte,go_sem,e8,e9,e10,af (show(k:Int)<(b.length:Nat) by omega),p0,p1,p2,p3,p4,p5,p6,p7,p8,p9,p10,p11,p12,p13,<-hh5,<-hh6,B5.2.1,B5.2.2.1,<-hxb,af (show(0:Int)<(k:Int) by omega)]
      refine kD (.inl ⟨rfl,u6,7,rfl,fun(u7:U) (h7:H) s7=>⟨kY,?_⟩⟩)
      have o7:=o6.sZ s7
      have z7:=(st6.tZ s7).ge.sz
      simp only[lK,uf]
      simp(disch:=first|omega|simp only[zz];try omega;done) only[↓reduceIte,go_sem,e4]
      refine kK (by simp only[]) o7 (x:=uf 7) (by rw[mJ];rfl) rfl rfl z7 (by omega) λa1 n1 c1 u8 h8 o8 s8 hO8=>⟨kY,?_⟩
      have st8:=(st6.tZ s7).own s8 λb q=>o7.ge q
      have B8:=(B6.sZ s7).step s8 (λq=>hnx q rfl)
      have ix8:=(ix6.mono s7.ge).mono s8.ge
      have hn8: ¬kN (.slice a1 n1 c1) xb:=λq=>by
       rcases hO8 _ q with q|q
       ·exact hnx q rfl
       ·have:=(B6.sZ s7).1;omega
      obtain⟨M1,hM1⟩:=kJ (α:=List Edict.Tok) (M++[uf 7])
      have hlen1:M1.length<=321:=by rw[hM1,aN,bz];omega
      rw[<-hM1]at o8
      obtain⟨_,_,hme,-,-⟩:=o8.sl
      simp only[Value.slice.injEq]at hme
      obtain⟨rfl,rfl,rfl⟩:=hme
      rw[<-bB,<-hM1]at hsn
      have B81:=B8.1
      simp(disch:=first|omega|simp only[zz];try omega;done) only[↓reduceIte,go_sem,B8.at,B8.2.1])
   have B81:=B8.1
   have z8:=st8.ge.sz
   have o8':=o8
   try simp(disch:=first|omega|simp only[zz];try omega;done) only[↓reduceIte,go_sem,e4]
   refine kK (by simp only[]) o8 (x:=((10,[],0,0,x.2.2.2.2.2,0):Edict.Tok)) (by rw[mJ];rfl) rfl rfl z8 (by omega) λa2 n2 c2 u9' h9' oC sC hOC=>⟨kY,?_⟩
   have stC:=st8.own sC λb q=>o8.ge q
   have BC:=B8.step sC hn8
   have ixC:=ix8.mono sC.ge
   have BC1:=BC.1
   obtain⟨M2,hM2⟩:=kJ (α:=List Edict.Tok) (M1++[((10,[],0,0,x.2.2.2.2.2,0):Edict.Tok)])
   have hlen2:M2.length<=322:=by rw[hM2,aN,bz];omega
   rw[<-hM2]at oC
   obtain⟨_,_,hme2,-,-⟩:=oC.sl
   simp only[Value.slice.injEq]at hme2
   obtain⟨rfl,rfl,rfl⟩:=hme2
   simp(disch:=first|omega|simp only[zz];try omega;done) only[↓reduceIte,go_sem,BC.at,BC.2.1]
   refine kD (.inr (.inr ⟨rfl,u9',x.2.1,_,rfl,ixC,hxl,fun(uA:U) (hA:H) wA sA oA=>⟨kY,?_⟩⟩))
   have o9:=oC.sZ sA
   have st9:=stC.tZ sA
   have z9:=st9.ge.sz
   obtain⟨aA,cA,rfl,-,-⟩:=oA.sl
   simp(disch:=first|omega|simp only[zz];try omega;done) only[↓reduceIte,go_sem,Vs]
   refine qY o9 oA.iZ rfl rfl z9 (by omega) λaB nB cB uB hB oB sB=>⟨kY,?_⟩
   have stB:=st9.own sB λb q=>o9.ge q
   simp(disch:=first|omega|simp only[zz];try omega;done) only[↓reduceIte,go_sem,e10]
   exact⟨k+1,fin uB hB _ _ stB (by rw[hsn,List.append_cons,<-hM2];exact oB) (by simp [kF]) (by simp [kF,e8]) (by simp [kF,e9]) (by simp [kF]),by omega⟩
 ·rw[x1,x2,x3]at B6
  rw[x2]at hxl ix6
  simp only[og,bg]at B6
  have hft:Zd x=[Ov x.2.2.2.1,(11,[],0,x.2.2.1,0,-1),Ov x.2.2.2.2.1]:=by unfold Zd;rw[ah (by omega),ah (by omega)]
  rw[hft]at hsn
  rcases dG (k=0)with hk0|hk0
  all_goals
   first
    |(rw[ay hk0,bI]at hsn
      simp(disch:=first|omega|simp only[zz];try omega;done) only[↓reduceIte,go_sem,e8,e9,e10,af (show(k:Int)<(b.length:Nat) by omega),p0,p1,p2,p3,p4,p5,p6,p7,p8,p9,p10,p11,p12,p13,<-hh5,<-hh6,B5.2.1,B5.2.2.1,<-hxb,au (show¬(0:Int)<(k:Int) by omega),B6.at,B6.2.1]
      obtain⟨h8,h8e⟩:=kJ h6
      obtain⟨u8,u8e⟩:=kJ u6
      obtain⟨M1,M1e⟩:=kJ M
      obtain⟨a1,a1e⟩:=kJ wa
      obtain⟨c1,c1e⟩:=kJ wc
      rw[<-h8e,<-u8e]at B6 o6 st6 ix6
      rw[<-M1e,<-a1e,<-c1e]at o6 e4 hnx
      rw[<-M1e]at hsn hlen
      have st8:=st6
      have o8:=o6
      have B8:=B6
      have ix8:=ix6
      have hn8: ¬kN (.slice a1 M1.length c1) xb:=λq=>hnx q rfl
      have hlen1:M1.length<=321:=by omega
      have e4':=e4
      rw[<-h8e]
      (try rw[<-M1e])
      (try rw[<-a1e])
      (try rw[<-c1e]))
    |(rw[ah hk0]at hsn
      simp(disch:=first|omega|simp only[zz];try omega;done) only[↓reduceIte,go_sem,e8,e9,e10,af (show(k:Int)<(b.length:Nat) by omega),p0,p1,p2,p3,p4,p5,p6,p7,p8,p9,p10,p11,p12,p13,<-hh5,<-hh6,B5.2.1,B5.2.2.1,<-hxb,af (show(0:Int)<(k:Int) by omega)]
      refine kD (.inl ⟨rfl,u6,7,rfl,fun(u7:U) (h7:H) s7=>⟨kY,?_⟩⟩)
      have o7:=o6.sZ s7
      have z7:=(st6.tZ s7).ge.sz
      simp only[lK,uf]
      simp(disch:=first|omega|simp only[zz];try omega;done) only[↓reduceIte,go_sem,e4]
      refine kK (by simp only[]) o7 (x:=uf 7) (by rw[mJ];rfl) rfl rfl z7 (by omega) λa1 n1 c1 u8 h8 o8 s8 hO8=>⟨kY,?_⟩
      have st8:=(st6.tZ s7).own s8 λb q=>o7.ge q
      have B8:=(B6.sZ s7).step s8 (λq=>hnx q rfl)
      have ix8:=(ix6.mono s7.ge).mono s8.ge
      have hn8: ¬kN (.slice a1 n1 c1) xb:=λq=>by
       rcases hO8 _ q with q|q
       ·exact hnx q rfl
       ·have:=(B6.sZ s7).1;omega
      obtain⟨M1,hM1⟩:=kJ (α:=List Edict.Tok) (M++[uf 7])
      have hlen1:M1.length<=321:=by rw[hM1,aN,bz];omega
      rw[<-hM1]at o8
      obtain⟨_,_,hme,-,-⟩:=o8.sl
      simp only[Value.slice.injEq]at hme
      obtain⟨rfl,rfl,rfl⟩:=hme
      rw[<-bB,<-hM1]at hsn
      have B81:=B8.1
      simp(disch:=first|omega|simp only[zz];try omega;done) only[↓reduceIte,go_sem,B8.at,B8.2.1])
   have B81:=B8.1
   have z8:=st8.ge.sz
   refine kD (.inr (.inl ⟨rfl,u8,x.2.2.2.1,rfl,fun(u9:U) (h9:H) s9=>⟨by have B9:=B8.sZ s9;have B91:=B9.1;simp(disch:=first|omega|simp only[zz];try omega;done) only[↓reduceIte,go_sem,B8.at,B9.at,B9.2.1],?_⟩⟩))
   have B9:=B8.sZ s9
   have B91:=B9.1
   have o9:=o8.sZ s9
   have st9:=st8.tZ s9
   simp only[lK]
   simp(disch:=first|omega|simp only[zz];try omega;done) only[↓reduceIte,go_sem,Vs]
   refine kD (.inr (.inl ⟨rfl,u9,x.2.2.2.2.1,rfl,fun(uX:U) (hX:H) sX=>⟨by have BX:=B9.sZ sX;have BX1:=BX.1;simp(disch:=first|omega|simp only[zz];try omega;done) only[↓reduceIte,go_sem,B9.at,BX.at,BX.2.1],?_⟩⟩))
   have oX:=o9.sZ sX
   have stX:=st9.tZ sX
   have zX:=stX.ge.sz
   simp only[lK]
   have hmd:=mr.made (k:=0) uX hX (az _) 177 [Ov x.2.2.2.1,((11,[],0,x.2.2.1,0,-1):Edict.Tok),Ov x.2.2.2.2.1] (lK (Ov x.2.2.2.1)++(lK (11,[],0,x.2.2.1,0,-1)++lK (Ov x.2.2.2.2.1))) rfl (by simp only[aM,bg];decide) (λi y hy=>by
    match i,hy with
    |0,hy=>cases hy;rw[mJ];rfl
    |1,hy=>cases hy;rw[mJ];rfl
    |2,hy=>cases hy;rw[mJ];rfl
    |i+3,hy=>simp at hy)
   have pX:=kG.push S0 uX hX (lK (Ov x.2.2.2.1)++(lK (11,[],0,x.2.2.1,0,-1)++lK (Ov x.2.2.2.2.1))).toArray 177 (3*Rep.sz Edict.Tok)
   have oY:=oX.sZ pX
   have stY:=stX.tZ pX
   simp(disch:=first|omega|simp only[zz];try omega;done) only[↓reduceIte,go_sem,e4]
   refine qY oY hmd.iZ rfl rfl (by have:=stY.ge.sz;exact this) (by simp only[aM,bg];omega) λaB nB cB uB hB oB sB=>⟨kY,?_⟩
   have stB:=stY.own sB λb q=>oY.ge q
   simp(disch:=first|omega|simp only[zz];try omega;done) only[↓reduceIte,go_sem,e10]
   exact⟨k+1,fin uB hB _ _ stB (by rw[hsn];exact oB) (by simp [kF]) (by simp [kF,e8]) (by simp [kF,e9]) (by simp [kF]),by omega⟩
end Go.Proofs.Z
