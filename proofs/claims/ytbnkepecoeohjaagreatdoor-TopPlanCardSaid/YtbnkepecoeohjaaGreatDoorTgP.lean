/- A part of the proof. -/
import Derived.Test.YtbnkepecoeohjaaGreatDoorTgJ
import Derived.Test.YtbnkepecoeohjaaGreatDoorShelfM
import Derived.Test.YtbnkepecoeohjaaGreatDoorTq6
import Derived.Test.YtbnkepecoeohjaaGreatDoorTeH
set_option linter.all false
set_option maxRecDepth 100000
set_option maxHeartbeats 20000000
namespace Edict
theorem MU(P A:Nat):min (min P 18446744073709551615*min A 18446744073709551615) 18446744073709551615=min (P*A) 18446744073709551615:=by
 by_cases hP:P<=18446744073709551615
 ·by_cases hA:A<=18446744073709551615
  ·rw[dK hP,dK hA]
  ·rw[dK hP,dP (show 18446744073709551615<=A by omega)]
   rcases fU P with rfl|h
   ·simp
   ·have h1:18446744073709551615<=P*18446744073709551615:=jP _ h
    have h2:A<=P*A:=jP _ h
    rw[dP h1,dP (show 18446744073709551615<=P*A by omega)]
 ·rw[dP (show 18446744073709551615<=P by omega)]
  rcases fU A with rfl|h
  ·simp
  ·have h0:0<min A 18446744073709551615:=by omega
   have h1:18446744073709551615<=18446744073709551615*min A 18446744073709551615:=iG _ h0
   have h2:P<=P*A:=iG _ h
   rw[dP h1,dP (show 18446744073709551615<=P*A by omega)]
def DJ(d:Nat):Nat->List lG->Nat
 |s,[]=>s
 |s,n::N=>DJ d (if n.1=0 then s else min (s+min (d ^ n.2.2.2.2.2.2.toNat) 18446744073709551615) 18446744073709551615) N
theorem MV{d:Nat}: ∀{N:List lG} {s:Nat},s<=18446744073709551615->DJ d s N<=18446744073709551615
 |[],s,h=>h
 |n::N,s,h=>by
  unfold DJ
  refine MV ?_
  split
  ·exact h
  ·exact gF _ _
end Edict
namespace Go.Proofs.Z
open Go Go.Ev Edict
variable {vs:List Value} {h:H} {K:Value->H->Prop} {KP:List PanicEntry->H->Prop}
def Wo(vs:List Value)(h:H)(K:Value->H->Prop):Prop:= ∃x y:Nat,vs=[.int .u64 x,.int .u64 y,.int .u64 0]/\K (.tuple #[.int .u64 ((x+y) % 18446744073709551616:Nat),.int .u64 ((x+y) / 18446744073709551616:Nat)]) h
theorem abl(hC:Wo vs h K):ma Tryz.prog 97 vs h K KP:=by
 obtain⟨x,y,rfl,hK⟩:=hC
 refine ma.extern (e:=add64Entry) Tryz.func97 (by kernel_rfl) (by kernel_rfl) (by kernel_rfl) (by kernel_rfl) λw hw=> ?_
 subst hw
 refine⟨_,w,run_add64 (x:Int) (y:Int) 0 (by omega) (by omega) (by omega) (by omega) w,.refl _,?_⟩
 simpa using hK
def Wp(vs:List Value)(h:H)(K:Value->H->Prop):Prop:= ∃x y:Nat,vs=[.int .u64 x,.int .u64 y]/\x<=18446744073709551615/\y<=18446744073709551615/\K (.tuple #[.int .u64 (x*y / 18446744073709551616:Nat),.int .u64 (x*y % 18446744073709551616:Nat)]) h
theorem abm(hC:Wp vs h K):ma Tryz.prog 98 vs h K KP:=by
 obtain⟨x,y,rfl,hx,hy,hK⟩:=hC
 refine .inl ⟨by kernel_rfl,λw hw=> ?_⟩
 subst hw
 refine(Tryz.bits_Mul64 x y (by omega) (by omega) w).mono ?_
 rintro e w' ⟨rfl,rfl⟩
 exact⟨.refl _,hK⟩
def Wq(vs:List Value)(h:H)(K:Value->H->Prop):Prop:= ∃x y:Nat,vs=[.int .u64 x,.int .u64 y]/\x<=18446744073709551615/\y<=18446744073709551615/\K (.int .u64 (min (x+y) 18446744073709551615:Nat)) h
def adO:mG:=λf vs h K _=>f=97/\Wo vs h K
theorem Ug:nz Tryz.prog adO:=qd abl
theorem abn(hC:Wq vs h K):ma Tryz.prog 73 vs h K KP:=by
 obtain⟨x,y,rfl,hx,hy,hK⟩:=hC
 refine kP 16499 [(none,(.t 4))] Ug Tryz.func73 (by kernel_rfl) (by conv=>lhs;cbv;try simp only[mF]) ?_
 simp(disch:=first|omega|simp only[zz];try omega;done) only[↓reduceIte,go_sem]
 refine kD ⟨rfl,x,y,rfl,(λp q=>nomatch q),?_⟩
 obtain⟨s,hs⟩:=kJ (x+y)
 rw[<-hs]at hK ⊢
 obtain⟨c,hc⟩:=kJ (s / 18446744073709551616)
 obtain⟨m,hm⟩:=kJ (s % 18446744073709551616)
 rw[<-hc,<-hm]
 by_cases h1:s<=18446744073709551615
 ·rw[dK h1]at hK
  have hc0:c=0:=by omega
  have hms:m=s:=by omega
  rw[hms]
  simp(disch:=first|omega|simp only[zz];try omega;done) only[↓reduceIte,go_sem,af (show(c:Int)=0 by omega)]
  exact hK
 ·rw[dP (by omega)]at hK
  have hc0: ¬c=0:=by omega
  simp(disch:=first|omega|simp only[zz];try omega;done) only[↓reduceIte,go_sem,au (show¬(c:Int)=0 by omega)]
  exact hK
def Ws(vs:List Value)(h:H)(K:Value->H->Prop):Prop:= ∃x y:Nat,vs=[.int .u64 x,.int .u64 y]/\x<=18446744073709551615/\y<=18446744073709551615/\K (.int .u64 (min (x*y) 18446744073709551615:Nat)) h
def adP:mG:=λf vs h K _=>f=98/\Wp vs h K
theorem Uh:nz Tryz.prog adP:=qd abm
theorem abo(hC:Ws vs h K):ma Tryz.prog 74 vs h K KP:=by
 obtain⟨x,y,rfl,hx,hy,hK⟩:=hC
 refine kP 16499 [(none,(.t 4))] Uh Tryz.func74 (by kernel_rfl) (by conv=>lhs;cbv;try simp only[mF]) ?_
 simp(disch:=first|omega|simp only[zz];try omega;done) only[↓reduceIte,go_sem]
 refine kD ⟨rfl,x,y,rfl,hx,hy,(λp q=>nomatch q),?_⟩
 obtain⟨s,hs⟩:=kJ (x*y)
 rw[<-hs]at hK ⊢
 obtain⟨c,hc⟩:=kJ (s / 18446744073709551616)
 obtain⟨m,hm⟩:=kJ (s % 18446744073709551616)
 rw[<-hc,<-hm]
 by_cases h1:s<=18446744073709551615
 ·rw[dK h1]at hK
  have hc0:c=0:=by omega
  have hms:m=s:=by omega
  rw[hms]
  simp(disch:=first|omega|simp only[zz];try omega;done) only[↓reduceIte,go_sem,af (show(c:Int)=0 by omega)]
  exact hK
 ·rw[dP (by omega)]at hK
  have hc0: ¬c=0:=by omega
  simp(disch:=first|omega|simp only[zz];try omega;done) only[↓reduceIte,go_sem,au (show¬(c:Int)=0 by omega)]
  exact hK
def Wt(vs:List Value)(h:H)(K:Value->H->Prop):Prop:= ∃a n:Nat,vs=[.int .u64 a,.int .u64 n]/\a<=18446744073709551615/\n<=18446744073709551615/\K (.int .u64 (min (a ^ n) 18446744073709551615:Nat)) h
def adQ:mG:=λf vs h K _=>f=74/\Ws vs h K
theorem Ui:nz Tryz.prog adQ:=qd abo
theorem abp(hC:Wt vs h K):ma Tryz.prog 33 vs h K KP:=by
 obtain⟨a,n,rfl,ha,hn,hK⟩:=hC
 refine kP 132275 [(none,(.t 4))] Ui Tryz.func33 (by kernel_rfl) (by conv=>lhs;cbv;try simp only[mF]) ?_
 simp(disch:=first|omega|simp only[zz];try omega;done) only[↓reduceIte,go_sem]
 obtain⟨I,hI⟩:=kJ (α:=Nat->lm->H->Prop) λk σ h'=> ∃(P B p b:Nat),σ 0= .int .u64 b/\σ 1= .int .u64 k/\σ 5= .int .u64 p/\p=min P 18446744073709551615/\b=min B 18446744073709551615/\P*B ^ k=a ^ n/\k<=18446744073709551615/\h'=h
 refine kH I (λj=>j) n (by rw[hI];exact⟨1,a,1,a,by simp [kF],by simp [kF],by simp [kF],rfl,(dK ha).symm,by simp,hn,rfl⟩) ?_
 intro k σ h' hi
 rw[hI]at hi
 obtain⟨P,B,p,b,e0,e1,e5,hp,hb,hPB,hk,rfl⟩:=hi
 have hp':p<=18446744073709551615:=by rw[hp];exact gF _ _
 have hb':b<=18446744073709551615:=by rw[hb];exact gF _ _
 by_cases hk0:k=0
 ·subst hk0
  rw[Nat.pow_zero,aZ]at hPB
  rw[<-hPB,<-hp]at hK
  simp(disch:=first|omega|simp only[zz];try omega;done) only[↓reduceIte,go_sem,e1,e5]
  exact hK
 have tm:(k:Int).tmod 2=((k % 2:Nat):Int):=rfl
 have td:(k:Int).tdiv 2=((k / 2:Nat):Int):=rfl
 have h2: ∀m:Nat,B ^ (2*m)=(B*B) ^ m:=λm=>by rw[Nat.pow_mul,Nat.pow_two]
 obtain⟨q,hq⟩:=kJ (k / 2)
 by_cases hod:k % 2=1
 ·have hk2:k=2*q+1:=by omega
  have hP2:P*B*(B*B) ^ q=a ^ n:=by rw[<-hPB,hk2,Nat.pow_succ,h2,Nat.mul_assoc,kz B]
  have hqk:q<k:=by omega
  have hpb:min (p*b) 18446744073709551615=min (P*B) 18446744073709551615:=by rw[hp,hb];exact MU P B
  have hbb:min (b*b) 18446744073709551615=min (B*B) 18446744073709551615:=by rw[hb];exact MU B B
  rw[<-hq]at td
  have hwq:IntKind.u64.wrap (q:Int)=(q:Int):=by rw[IntKind.wrap_u64];omega
  simp(disch:=first|omega|simp only[zz];try omega;done) only[↓reduceIte,go_sem,e0,e1,e5,tm,hod,af (show(0:Int)<(k:Int) by omega),Int.natCast_one]
  refine kD ⟨rfl,p,b,rfl,hp',hb',(λp q=>nomatch q),?_⟩
  by_cases hq0:q=0
  ·subst hq0
   simp(disch:=first|omega|simp only[zz];try omega;done) only[↓reduceIte,go_sem,e1,td,show IntKind.u64.wrap 0=0 from rfl]
   refine⟨0,?_,hqk⟩
   rw[hI]
   exact⟨P*B,B,min (p*b) 18446744073709551615,b,by simp [kF,e0],by simp [kF],by simp [kF],hpb,hb,by rw[Nat.pow_zero,aZ];simpa using hP2,az _,rfl⟩
  ·simp(disch:=first|omega|simp only[zz];try omega;done) only[↓reduceIte,go_sem,e0,e1,td,hwq,af (show(0:Int)<(q:Int) by omega)]
   refine kD ⟨rfl,b,b,rfl,hb',hb',(λp q=>nomatch q),?_⟩
   simp(disch:=first|omega|simp only[zz];try omega;done) only[↓reduceIte,go_sem,Vs]
   refine⟨q,?_,hqk⟩
   rw[hI]
   exact⟨P*B,B*B,min (p*b) 18446744073709551615,min (b*b) 18446744073709551615,by simp [kF],by simp [kF],by simp [kF],hpb,hbb,hP2,by omega,rfl⟩
 ·have hk2:k=2*q:=by omega
  have hP2:P*(B*B) ^ q=a ^ n:=by rw[<-hPB,hk2,h2]
  have hqk:q<k:=by omega
  have hbb:min (b*b) 18446744073709551615=min (B*B) 18446744073709551615:=by rw[hb];exact MU B B
  have hm0:k % 2=0:=by omega
  rw[<-hq]at td
  have hwq:IntKind.u64.wrap (q:Int)=(q:Int):=by rw[IntKind.wrap_u64];omega
  have hq0: ¬q=0:=by omega
  simp(disch:=first|omega|simp only[zz];try omega;done) only[↓reduceIte,go_sem,e0,e1,tm,td,hwq,hm0,af (show(0:Int)<(k:Int) by omega),af (show(0:Int)<(q:Int) by omega)]
  refine kD ⟨rfl,b,b,rfl,hb',hb',(λp q=>nomatch q),?_⟩
  simp(disch:=first|omega|simp only[zz];try omega;done) only[↓reduceIte,go_sem,Vs]
  refine⟨q,?_,hqk⟩
  rw[hI]
  exact⟨P,B*B,p,min (b*b) 18446744073709551615,by simp [kF],by simp [kF],by simp [kF,e5],hp,hbb,hP2,by omega,rfl⟩
end Go.Proofs.Z
namespace Edict
theorem DI{d:Nat}{n:lG}: ∀{N:List lG} {s:Nat},DJ d s (N++[n])=if n.1=0 then DJ d s N else min (DJ d s N+min (d ^ n.2.2.2.2.2.2.toNat) 18446744073709551615) 18446744073709551615
 |[],s=>rfl
 |x::N,s=>by rw[bO,DJ,DI];rfl
theorem DL.kind{A:List lY}{N:List lG}{W:List (List Nat)}{E:List Nat}(P:DL A N W E){k:Nat}{n:lG}(h:N[k]? =some n):(n.1=0↔k=0)/\0<=n.2.2.2.2.2.2/\n.2.2.2.2.2.2<=16:=by
 have hk:=(aJ.1 h).1
 have hw:=P.wid k hk
 rw[zI h]at hw
 refine⟨⟨λq=> ?_,λq=> ?_⟩,hw⟩
 ·apply bR
  intro hk0
  obtain⟨w,cs,ws,c,-,-,-,hn,hc,-⟩:=P.all k (by omega) hk
  rw[h]at hn
  have e:n.1=c.1:=by rw[bu hn];exact Fu.1
  rcases hc with⟨a|a,-⟩|⟨a,-⟩<;>omega
 ·subst q
  rw[P.rt]at h
  cases h
  rfl
end Edict
namespace Go.Proofs.Z
open Go Go.Ev Edict
variable {vs:List Value} {h:H} {K:Value->H->Prop} {KP:List PanicEntry->H->Prop}
def Wn(vs:List Value)(h:H)(K:Value->H->Prop):Prop:= ∃(u:U) (b x y:Nat),vs=[.slice (some ⟨b,0,none⟩) 2 2]/\kV u h b [.int .u64 x,.int .u64 y]/\x<=18446744073709551615/\y<=18446744073709551615/\K (.int .u64 (min (x+y) 18446744073709551615:Nat)) h
def adN:mG:=λf vs h K _=>f=73/\Wq vs h K
theorem Ue:nz Tryz.prog adN:=qd abn
theorem abk(hC:Wn vs h K):ma Tryz.prog 32 vs h K KP:=by
 obtain⟨u,b,x,y,rfl,B,hx,hy,hK⟩:=hC
 refine kP 1005 [(none,(.t 2))] Ue Tryz.func32 (by kernel_rfl) (by conv=>lhs;cbv;try simp only[mF]) ?_
 have B1:=B.1
 have z:=B.2.1
 simp(disch:=first|omega|simp only[zz];try omega;done) only[↓reduceIte,go_sem]
 refine kH (fun(k:Nat) (σ:lm) (h':H)=>h'=h/\k<=2/\σ 6= .slice (some ⟨b,0,none⟩) 2 2/\σ 7= .int .i64 2/\σ 8= .int .i64 k/\σ 3= .int .u64 (((if k=0 then 0 else if k=1 then x else min (x+y) 18446744073709551615:Nat):Nat):Int)) (λj=>2 - j) 0 ⟨rfl,by omega,by simp [kF],by simp [kF],by simp [kF],by simp [kF]⟩ ?_
 rintro k σ h' ⟨rfl,hk,e6,e7,e8,e3⟩
 match k,hk with
 |0,_=>
  rw[ay rfl]at e3
  simp(disch:=first|omega|simp only[zz];try omega;done) only[↓reduceIte,go_sem,e3,e6,e7,e8,B.at,B.2.1]
  refine kD ⟨rfl,0,x,rfl,by omega,hx,(λp q=>nomatch q),?_⟩
  simp(disch:=first|omega|simp only[zz];try omega;done) only[↓reduceIte,go_sem,e8]
  refine⟨1,by omega,by simp [e6],by simp [e7],by simp [],?_,by omega⟩
  simp [];omega
 |1,_=>
  rw[ah (by omega),ay rfl]at e3
  simp(disch:=first|omega|simp only[zz];try omega;done) only[↓reduceIte,go_sem,e3,e6,e7,e8,B.at,B.2.1]
  refine kD ⟨rfl,x,y,rfl,hx,hy,(λp q=>nomatch q),?_⟩
  simp(disch:=first|omega|simp only[zz];try omega;done) only[↓reduceIte,go_sem,e8]
  refine⟨2,by omega,by simp [e6],by simp [e7],by simp [],?_,by omega⟩
  simp []
 |2,_=>
  rw[ah (by omega),ah (by omega)]at e3
  simp(disch:=first|omega|simp only[zz];try omega;done) only[↓reduceIte,go_sem,e3,e7,e8]
  exact hK
def Qw(vs:List Value)(h:H)(K:Value->H->Prop):Prop:= ∃(u:U) (d:Nat) (va vn ve:Value) (A:List lY) (N:List lG) (W:List (List Nat)) (E:List Nat),vs=[.int .i64 d,.agg #[va,vn,ve]]/\d<=1000000000/\mg va=true/\kM u h vn N/\mg ve=true/\DL A N W E/\ ∀u' h',kG S0 u h u' h'->K (.int .u64 (DJ d 0 N:Nat)) h'
def Uf:mG:=λf vs h K _=>(f=33/\Wt vs h K)\/(f=32/\Wn vs h K)
theorem Jv:nz Tryz.prog Uf:=mK abp (qd abk)
theorem Qx(hC:Qw vs h K):ma Tryz.prog 9 vs h K KP:=by
 obtain⟨u,d,va,vn,ve,A,N,W,E,rfl,hd,oka,iN,oke,P,hK⟩:=hC
 refine kP 138939 [(none,(.t 4))] Jv Tryz.func9 (by kernel_rfl) (by conv=>lhs;cbv;try simp only[mF]) ?_
 obtain⟨na,nc,rfl,-,-⟩:=iN.sl
 have hN:=P.nl
 obtain⟨h1,u1,hh1,zh1,p1,B1⟩:=kL u h [va,.slice na N.length nc,ve] 26
 obtain⟨b1,hb1⟩:=kJ h.size
 rw[<-hb1]at B1
 have B11:=B1.1
 simp(disch:=first|omega|simp only[zz];try omega;done) only[↓reduceIte,go_sem,<-hh1,<-hb1,B1.at,B1.2.1]
 obtain⟨I,hI⟩:=kJ (α:=Nat->lm->H->Prop) λk σ h'=> ∃(u':U) (s:Nat),σ 0= .int .i64 d/\σ 5= .int .u64 s/\s=DJ d 0 (N.take k)/\σ 9= .slice na N.length nc/\σ 10= .int .i64 (N.length:Nat)/\σ 11= .int .i64 k/\k<=N.length/\kG S0 u h u' h'
 refine kH I (λj=>N.length - j) 0 (by rw[hI];exact⟨u1,0,by simp [kF],by simp [kF],rfl,by simp [kF],by simp [kF],by simp [kF],by omega,p1⟩) ?_
 clear hh1 B1 B11
 intro k σ h' hi
 rw[hI]at hi
 obtain⟨u',s,e0,e5,hs,e9,e10,e11,hk,st⟩:=hi
 have hsM:s<=18446744073709551615:=by rw[hs];exact MV (by omega)
 by_cases hlt:k<N.length
 case neg=>
  rw[aK (by omega)]at hs
  have hK:=hK u' h' st
  rw[<-hs]at hK
  simp(disch:=first|omega|simp only[zz];try omega;done) only[↓reduceIte,go_sem,e5,e10,e11,au (show¬(k:Int)<(N.length:Nat) by omega)]
  exact hK
 obtain⟨n,hn⟩:=uu hlt
 obtain⟨hkd,hw0,hw16⟩:=P.kind hn
 have tk:N.take (k+1)=N.take k++[n]:=by rw[aS,hn];rfl
 have hs2:DJ d 0 (N.take (k+1))=if n.1=0 then s else min (s+min (d ^ n.2.2.2.2.2.2.toNat) 18446744073709551615) 18446744073709551615:=by rw[tk,DI,<-hs]
 obtain⟨w,hwe⟩:=iH hw0
 rw[hwe,eT]at hs2
 have hw16':w<=16:=by omega
 obtain⟨pb,po,rfl,hpb,hpu,hpz,hpr⟩:=(iN.mono st.ge).row k n hn
 rw[oL]at hpr
 obtain⟨xv,xw,hpr,ixv,ixw⟩:=hpr
 obtain⟨xa,xc,rfl,-,-⟩:=ixv.sl
 obtain⟨ya,yc,rfl,-,-⟩:=ixw.sl
 simp only[rF,qR,aG,aP]at hpr hpu hpz
 obtain⟨q0,q1,q2,q3,q4,q5,q6,q7,q8,q9,q10⟩:=hpr
 have e9':σ 9= .slice (some ⟨pb,po,none⟩) N.length nc:=e9
 obtain⟨h5',h6,u6,hh5,hh6,B5,B6,s6,hz6⟩:=kZ u' h' [.int .i64 0,.int .i64 0,.int .i64 0,.slice none 0 0,.slice none 0 0,.int .i64 0,.bool false,.int .i64 0,.bool false,.int .i64 0,.int .i64 0] (qM n (.slice xa n.2.2.2.1.length xc) (.slice ya n.2.2.2.2.1.length yc)) 36 rfl
 have B51:=B5.1
 have B61:=B6.1
 obtain⟨bb,hbb⟩:=kJ h'.size
 rw[<-hbb]at B5 B51 B6 B61 hh6
 simp only[qM]at hh6 B6
 rw[hwe]at hh6 B6 q10
 have st6:=st.tZ s6
 have hcd:IntKind.u64.wrap (d:Int)=(d:Int):=by rw[IntKind.wrap_u64];omega
 have hcw:IntKind.u64.wrap (w:Int)=(w:Int):=by rw[IntKind.wrap_u64];omega
 by_cases hn0:n.1=0
 ·rw[ay hn0]at hs2
  simp(disch:=first|omega|simp only[zz];try omega;done) only[↓reduceIte,go_sem,e9',e10,e11,af (show(k:Int)<(N.length:Nat) by omega),q0,q1,q2,q3,q4,q5,q6,q7,q8,q9,q10,<-hbb,<-hh5,<-hh6,B5.2.1,B5.2.2.1,B6.at,B6.2.1,af hn0]
  refine⟨k+1,?_,by omega⟩
  rw[hI]
  exact⟨u6,s,by simp [kF,e0],by simp [kF,e5],hs2.symm,by simp [kF,e9'],by simp [kF,e10],by simp [kF],hlt,st6⟩
 ·rw[ah hn0]at hs2
  simp(disch:=first|omega|simp only[zz];try omega;done) only[↓reduceIte,go_sem,e0,e9',e10,e11,af (show(k:Int)<(N.length:Nat) by omega),q0,q1,q2,q3,q4,q5,q6,q7,q8,q9,q10,<-hbb,<-hh5,<-hh6,B5.2.1,B5.2.2.1,B6.at,B6.2.1,au hn0,au (show¬(d:Int)<0 by omega),au (show¬(w:Int)<0 by omega),hcd,hcw]
  refine kD (.inl ⟨rfl,d,w,rfl,by omega,by omega,(λp q=>nomatch q),?_⟩)
  obtain⟨m,hm⟩:=kJ (min (d ^ w) 18446744073709551615)
  have hmM:m<=18446744073709551615:=by rw[hm];exact gF _ _
  rw[<-hm]at hs2 ⊢
  obtain⟨h8,u8,hh8,zh8,p8,S8⟩:=kL u6 h6 [.int .u64 s,.int .u64 m] 67
  simp(disch:=first|omega|simp only[zz];try omega;done) only[↓reduceIte,go_sem,e5,<-hh8]
  refine kD (.inr ⟨rfl,u8,_,s,m,rfl,S8,hsM,hmM,(λp q=>nomatch q),?_⟩)
  simp(disch:=first|omega|simp only[zz];try omega;done) only[↓reduceIte,go_sem,e11]
  refine⟨k+1,?_,by omega⟩
  rw[hI]
  exact⟨u8,_,by simp [kF,e0],by simp [kF],hs2.symm,by simp [kF,e9'],by simp [kF,e10],by simp [kF],hlt,st6.tZ p8⟩
end Go.Proofs.Z
namespace Go.Proofs.Z
open Go Go.Ev Edict
variable {vs:List Value} {h:H} {K:Value->H->Prop} {KP:List PanicEntry->H->Prop}
def abj(vs:List Value)(h:H)(K:Value->H->Prop):Prop:= ∃x y:Nat,vs=[.int .u64 x,.int .u64 y]/\x<=18446744073709551615/\y<=18446744073709551615/\K (.int .u64 (min (x+y) 18446744073709551615:Nat)) h
theorem Yl(hC:abj vs h K):ma Tryz.prog 34 vs h K KP:=by
 obtain⟨x,y,rfl,hx,hy,hK⟩:=hC
 refine kP 275 [(none,(.t 4))] (G:=(λ_ _ _ _ _=>False)) (λ_ _ _ _ _ h=>h.elim) Tryz.func34 (by kernel_rfl) (by conv=>lhs;cbv;try simp only[mF]) ?_
 have w1:IntKind.u64.wrap (18446744073709551615 - (y:Int))=18446744073709551615 - (y:Int):=by rw[IntKind.wrap_u64];omega
 by_cases h1:x+y<=18446744073709551615
 ·rw[dK h1]at hK
  have w2:IntKind.u64.wrap ((x:Int)+(y:Int))=((x+y:Nat):Int):=by rw[IntKind.wrap_u64];omega
  simp(disch:=first|omega|simp only[zz];try omega;done) only[↓reduceIte,go_sem,w1,w2,au (show¬18446744073709551615 - (y:Int)<(x:Int) by omega)]
  exact hK
 ·rw[dP (by omega)]at hK
  simp(disch:=first|omega|simp only[zz];try omega;done) only[↓reduceIte,go_sem,w1,af (show 18446744073709551615 - (y:Int)<(x:Int) by omega)]
  exact hK
def Wm(vs:List Value)(h:H)(K:Value->H->Prop):Prop:= ∃a n:Nat,vs=[.int .u64 a,.int .i64 n]/\a<=18446744073709551615/\n<=1000/\K (.int .u64 (min (a ^ n) 18446744073709551615:Nat)) h
theorem Ud(hC:Wm vs h K):ma Tryz.prog 35 vs h K KP:=by
 obtain⟨a,n,rfl,ha,hn,hK⟩:=hC
 refine kP 524915 [(none,(.t 4))] (G:=(λ_ _ _ _ _=>False)) (λ_ _ _ _ _ h=>h.elim) Tryz.func35 (by kernel_rfl) (by conv=>lhs;cbv;try simp only[mF]) ?_
 simp(disch:=first|omega|simp only[zz];try omega;done) only[↓reduceIte,go_sem]
 obtain⟨I,hI⟩:=kJ (α:=Nat->lm->H->Prop) λk σ h'=> ∃p:Nat,σ 0= .int .u64 a/\σ 1= .int .i64 n/\σ 5= .int .u64 p/\σ 6= .int .i64 k/\p=a ^ k/\p<=18446744073709551615/\k<=n/\h'=h
 refine kH I (λj=>n - j) 0 (by rw[hI];exact⟨1,by simp [kF],by simp [kF],by simp [kF],by simp [kF],by simp,by omega,by omega,rfl⟩) ?_
 intro k σ h' hi
 rw[hI]at hi
 obtain⟨p,e0,e1,e5,e6,hp,hpM,hk,rfl⟩:=hi
 by_cases hlt:k<n
 case neg=>
  have hkn:k=n:=by omega
  rw[<-hkn,<-hp,dK hpM]at hK
  simp(disch:=first|omega|simp only[zz];try omega;done) only[↓reduceIte,go_sem,e1,e5,e6,au (show¬(k:Int)<(n:Int) by omega)]
  exact hK
 have td:(18446744073709551615:Int).tdiv (a:Int)=((18446744073709551615 / a:Nat):Int):=rfl
 obtain⟨q,hq⟩:=kJ (18446744073709551615 / a)
 have hqM:q<=18446744073709551615:=by rw[hq];exact Nat.div_le_self _ _
 rw[<-hq]at td
 have wq:IntKind.u64.wrap (q:Int)=(q:Int):=by rw[IntKind.wrap_u64];omega
 have hps:a ^ (k+1)=p*a:=by rw[Nat.pow_succ,<-hp]
 have go: ∀(σ'':lm) (p':Nat),p'=a ^ (k+1)->p'<=18446744073709551615->σ'' 5= .int .u64 p'->σ'' 6= .int .i64 ((k:Int)+1)->σ'' 0=σ 0->σ'' 1=σ 1-> ∃j,I j σ'' h'/\n - j<n - k:=λσ'' p' g1 g2 g3 g4 g5 g6=>by
  refine⟨k+1,?_,by omega⟩
  rw[hI]
  exact⟨p',g5.trans e0,g6.trans e1,g3,by rw[g4];simp,g1,g2,hlt,rfl⟩
 by_cases ha0:a=0
 ·have hp0:p*a=0:=by rw[ha0,Nat.mul_zero]
  have wm:IntKind.u64.wrap ((p:Int)*(a:Int))=((0:Nat):Int):=by
   have:(p:Int)*(a:Int)=0:=by rw[ha0];simp
   rw[this];rfl
  simp(disch:=first|omega|simp only[zz];try omega;done) only[↓reduceIte,go_sem,e0,e1,e5,e6,af (show(k:Int)<(n:Int) by omega),af (show(a:Int)=0 by omega),wm]
  exact go _ 0 (by rw[hps,hp0]) (by omega) (by simp [kF]) (by simp [kF]) (by simp [kF]) (by simp [kF])
 ·have hiff:q<p↔18446744073709551615<p*a:=by rw[hq];exact Nat.div_lt_iff_lt_mul (by omega)
  by_cases hov:q<p
  ·have hbig:18446744073709551615<a ^ n:=by
    have h1:=hiff.1 hov
    rw[<-hps]at h1
    exact bM h1 (Nat.pow_le_pow_right (by omega) hlt)
   rw[dP (by omega)]at hK
   simp(disch:=first|omega|simp only[zz];try omega;done) only[↓reduceIte,go_sem,e0,e1,e5,e6,af (show(k:Int)<(n:Int) by omega),au (show¬(a:Int)=0 by omega),td,wq,af (show(q:Int)<(p:Int) by omega)]
   exact hK
  ·have hsm:p*a<=18446744073709551615:=jq.1 λz=>hov (hiff.2 z)
   obtain⟨m,hm⟩:=kJ (p*a)
   have wm:IntKind.u64.wrap ((p:Int)*(a:Int))=(m:Int):=by
    have:(p:Int)*(a:Int)=(m:Int):=by rw[hm];simp
    rw[this,IntKind.wrap_u64];omega
   simp(disch:=first|omega|simp only[zz];try omega;done) only[↓reduceIte,go_sem,e0,e1,e5,e6,af (show(k:Int)<(n:Int) by omega),au (show¬(a:Int)=0 by omega),td,wq,au (show¬(q:Int)<(p:Int) by omega),wm]
   exact go _ m (by rw[hps,hm]) (by omega) (by simp [kF]) (by simp [kF]) (by simp [kF]) (by simp [kF])
def Cu(vs:List Value)(h:H)(K:Value->H->Prop):Prop:= ∃(u:U) (d:Nat) (va vn ve:Value) (A:List lY) (N:List lG) (W:List (List Nat)) (E:List Nat),vs=[.agg #[va,vn,ve],.int .i64 d]/\d<=1000000000/\mg va=true/\kM u h vn N/\mg ve=true/\DL A N W E/\ ∀u' h',kG S0 u h u' h'->K (.int .u64 (DJ d 0 N:Nat)) h'
def Ia:mG:=λf vs h K _=>(f=35/\Wm vs h K)\/(f=34/\abj vs h K)
theorem Cv:nz Tryz.prog Ia:=mK Ud (qd Yl)
theorem Fb(hC:Cu vs h K):ma Tryz.prog 10 vs h K KP:=by
 obtain⟨u,d,va,vn,ve,A,N,W,E,rfl,hd,oka,iN,oke,P,hK⟩:=hC
 refine kP 138999 [(none,(.t 4))] Cv Tryz.func10 (by kernel_rfl) (by conv=>lhs;cbv;try simp only[mF]) ?_
 obtain⟨na,nc,rfl,-,-⟩:=iN.sl
 have hN:=P.nl
 obtain⟨h1,u1,hh1,zh1,p1,B1⟩:=kL u h [va,.slice na N.length nc,ve] 26
 obtain⟨b1,hb1⟩:=kJ h.size
 rw[<-hb1]at B1
 have B11:=B1.1
 simp(disch:=first|omega|simp only[zz];try omega;done) only[↓reduceIte,go_sem,<-hh1,<-hb1,B1.at,B1.2.1]
 obtain⟨I,hI⟩:=kJ (α:=Nat->lm->H->Prop) λk σ h'=> ∃(u':U) (s:Nat),σ 1= .int .i64 d/\σ 5= .int .u64 s/\s=DJ d 0 (N.take k)/\σ 9= .slice na N.length nc/\σ 10= .int .i64 (N.length:Nat)/\σ 11= .int .i64 k/\k<=N.length/\kG S0 u h u' h'
 refine kH I (λj=>N.length - j) 0 (by rw[hI];exact⟨u1,0,by simp [kF],by simp [kF],rfl,by simp [kF],by simp [kF],by simp [kF],by omega,p1⟩) ?_
 clear hh1 B1 B11
 intro k σ h' hi
 rw[hI]at hi
 obtain⟨u',s,e0,e5,hs,e9,e10,e11,hk,st⟩:=hi
 have hsM:s<=18446744073709551615:=by rw[hs];exact MV (by omega)
 by_cases hlt:k<N.length
 case neg=>
  rw[aK (by omega)]at hs
  have hK:=hK u' h' st
  rw[<-hs]at hK
  simp(disch:=first|omega|simp only[zz];try omega;done) only[↓reduceIte,go_sem,e5,e10,e11,au (show¬(k:Int)<(N.length:Nat) by omega)]
  exact hK
 obtain⟨n,hn⟩:=uu hlt
 obtain⟨hkd,hw0,hw16⟩:=P.kind hn
 have tk:N.take (k+1)=N.take k++[n]:=by rw[aS,hn];rfl
 have hs2:DJ d 0 (N.take (k+1))=if n.1=0 then s else min (s+min (d ^ n.2.2.2.2.2.2.toNat) 18446744073709551615) 18446744073709551615:=by rw[tk,DI,<-hs]
 obtain⟨w,hwe⟩:=iH hw0
 rw[hwe,eT]at hs2
 have hw16':w<=16:=by omega
 obtain⟨pb,po,rfl,hpb,hpu,hpz,hpr⟩:=(iN.mono st.ge).row k n hn
 rw[oL]at hpr
 obtain⟨xv,xw,hpr,ixv,ixw⟩:=hpr
 obtain⟨xa,xc,rfl,-,-⟩:=ixv.sl
 obtain⟨ya,yc,rfl,-,-⟩:=ixw.sl
 simp only[rF,qR,aG,aP]at hpr hpu hpz
 obtain⟨q0,q1,q2,q3,q4,q5,q6,q7,q8,q9,q10⟩:=hpr
 have e9':σ 9= .slice (some ⟨pb,po,none⟩) N.length nc:=e9
 obtain⟨h5',h6,u6,hh5,hh6,B5,B6,s6,hz6⟩:=kZ u' h' [.int .i64 0,.int .i64 0,.int .i64 0,.slice none 0 0,.slice none 0 0,.int .i64 0,.bool false,.int .i64 0,.bool false,.int .i64 0,.int .i64 0] (qM n (.slice xa n.2.2.2.1.length xc) (.slice ya n.2.2.2.2.1.length yc)) 36 rfl
 have B51:=B5.1
 have B61:=B6.1
 obtain⟨bb,hbb⟩:=kJ h'.size
 rw[<-hbb]at B5 B51 B6 B61 hh6
 simp only[qM]at hh6 B6
 rw[hwe]at hh6 B6 q10
 have st6:=st.tZ s6
 have hcd:IntKind.u64.wrap (d:Int)=(d:Int):=by rw[IntKind.wrap_u64];omega
 have hcw:IntKind.u64.wrap (w:Int)=(w:Int):=by rw[IntKind.wrap_u64];omega
 by_cases hn0:n.1=0
 ·rw[ay hn0]at hs2
  simp(disch:=first|omega|simp only[zz];try omega;done) only[↓reduceIte,go_sem,e9',e10,e11,af (show(k:Int)<(N.length:Nat) by omega),q0,q1,q2,q3,q4,q5,q6,q7,q8,q9,q10,<-hbb,<-hh5,<-hh6,B5.2.1,B5.2.2.1,au (show¬(0:Int)<(k:Int) by have:=hkd.1 hn0;omega)]
  refine⟨k+1,?_,by omega⟩
  rw[hI]
  exact⟨u6,s,by simp [kF,e0],by simp [kF,e5],hs2.symm,by simp [kF,e9'],by simp [kF,e10],by simp [kF],hlt,st6⟩
 ·rw[ah hn0]at hs2
  simp(disch:=first|omega|simp only[zz];try omega;done) only[↓reduceIte,go_sem,e0,e9',e10,e11,af (show(k:Int)<(N.length:Nat) by omega),q0,q1,q2,q3,q4,q5,q6,q7,q8,q9,q10,<-hbb,<-hh5,<-hh6,B5.2.1,B5.2.2.1,B6.at,B6.2.1,af (show(0:Int)<(k:Int) by have:=λq=>hn0 (hkd.2 q);omega),hcd]
  refine kD (.inl ⟨rfl,d,w,rfl,by omega,by omega,(λp q=>nomatch q),?_⟩)
  simp(disch:=first|omega|simp only[zz];try omega;done) only[↓reduceIte,go_sem,e5]
  obtain⟨m,hm⟩:=kJ (min (d ^ w) 18446744073709551615)
  have hmM:m<=18446744073709551615:=by rw[hm];exact gF _ _
  rw[<-hm]at hs2 ⊢
  refine kD (.inr ⟨rfl,s,m,rfl,hsM,hmM,(λp q=>nomatch q),?_⟩)
  simp(disch:=first|omega|simp only[zz];try omega;done) only[↓reduceIte,go_sem,e11]
  refine⟨k+1,?_,by omega⟩
  rw[hI]
  exact⟨u6,_,by simp [kF,e0],by simp [kF],hs2.symm,by simp [kF,e9'],by simp [kF,e10],by simp [kF],hlt,st6⟩
end Go.Proofs.Z
namespace Edict
theorem HZ{j v:Int}{l:List (Int×Int)}{x:Int×Int}:xD j v (l++[x])=if x.1=j then x.2 else xD j v l:=by unfold xD;rw[iJ];rfl
theorem DF{w j:Int}{x:Int}: ∀{l:List Int} {k:Nat} {v:Int},Eg w j k v (l++[x])=if x=j then w+((k+l.length:Nat):Int)else Eg w j k v l
 |[],k,v=>by simp [Eg]
 |y::l,k,v=>by
  rw[bO,Eg,DF,aM,show k+1+l.length=k+(l.length+1) by omega]
  rfl
end Edict
namespace Go.Proofs.Z
open Go Go.Ev Edict
def abh(vs:List Value)(h:H)(K:Value->H->Prop):Prop:= ∃(u:U) (va vn ve:Value) (A:List lY) (N:List lG) (W:List (List Nat)) (E:List Nat) (i ui:Nat) (cs:List oU) (ws:List Nat) (c:oU),vs=[.agg #[va,vn,ve],.int .i64 i]/\kM u h va A/\kM u h vn N/\mg ve=true/\DL A N W E/\Nj A N i ui cs ws c/\c.1≠2/\ ∀u' h' v,kG S0 u h u' h'->kM u' h' v c.2.1.2->K (.tuple #[.agg #[.int .i64 c.2.1.1,v],.bool true]) h'
theorem Yk{vs:List Value}{h:H}{K:Value->H->Prop}{KP:List PanicEntry->H->Prop}(hC:abh vs h K):ma Tryz.prog 38 vs h K KP:=by
 obtain⟨u,va,vn,ve,A,N,W,E,i,ui,cs,ws,c,rfl,iA,iN,oke,P,nd,hc2,hK⟩:=hC
 refine kP 649057495886220223384373407498231 [((some (.c1 (.ldn 2) (.t 4))),(.o1 (.ldn 2) (.t 4))),(none,(.t 5))] (G:=(λ_ _ _ _ _=>False)) (λ_ _ _ _ _ h=>h.elim) Tryz.func38 (by kernel_rfl) (by conv=>lhs;cbv;try simp only[mF]) ?_
 obtain⟨aa,ac,rfl,-,-⟩:=iA.sl
 obtain⟨na,nc,rfl,-,-⟩:=iN.sl
 have hA:=P.al
 have hN:=P.nl
 obtain⟨-,hui,hi,hn,hcnd,hsh,-,-,-⟩:=nd
 obtain⟨hk,ht0,hpw,hwf⟩:=hcnd.resolve_right λq=>hc2 q.1
 obtain⟨kk,p,t⟩:=c
 simp only at hc2 hk ht0 hpw hwf hK
 subst ht0
 obtain⟨w,hw⟩:=kJ (wd N ui)
 have hww:=P.wid ui (by omega)
 have hwi:=P.wid i hi
 rw[<-hw]at hn hwf hww
 obtain⟨hml,hma⟩:=ug (hsh.resolve_left hc2)
 simp only at hml hma
 obtain⟨mi,hmi⟩:=kJ (ut A (lJ p))
 rw[<-hmi]at hml hma
 have hne:vC A ui w (kk,p,oQ)=(kk,(ui:Int),(mi:Int),ou w p.2,qA w p.2,oQ,w+(qA w p.2).length):=by rw[hmi];exact ah hc2
 rw[hne]at hn
 obtain⟨x,hx⟩: ∃x,N[ui]? =some x:=⟨N[ui]'(by omega),by rw[aL]⟩
 have hxw:x.2.2.2.2.2.2=w:=by rw[hw,zI hx]
 obtain⟨h1,u1,hh1,zh1,p1,B1⟩:=kL u h [.slice aa A.length ac,.slice na N.length nc,ve] 26
 obtain⟨b1,hb1⟩:=kJ h.size
 rw[<-hb1]at B1
 obtain⟨h2,u2,hh2,zh2,p2,R2⟩:=kL u1 h1 [.int .i64 0,.slice none 0 0] 59
 obtain⟨rb,hrb⟩:=kJ h1.size
 rw[<-hrb]at R2
 have B2:=B1.sZ p2
 have st2:=p1.tZ p2
 have B21:=B2.1
 obtain⟨pb,po,rfl,hpb,hpu,hpz,hpr⟩:=(iN.mono st2.ge).row i _ hn
 rw[oL]at hpr
 obtain⟨xv,xw,hpr,ixv,ixw⟩:=hpr
 simp only at ixv ixw
 obtain⟨L,hL⟩:=kJ (ou w p.2)
 obtain⟨M,hM⟩:=kJ (qA w p.2)
 rw[<-hL]at ixv
 rw[<-hM]at ixw hpr
 obtain⟨xa,xc,rfl,-,-⟩:=ixv.sl
 obtain⟨ya,yc,rfl,-,-⟩:=ixw.sl
 simp only[rF,qR,aG,aP,oQ,Jc]at hpr hpu hpz
 obtain⟨q0,q1,q2,q3,q4,q5,q6,q7,q8,q9,q10⟩:=hpr
 obtain⟨Nd,hNd⟩:=kJ (α:=List Value) ([.int .i64 kk,.int .i64 ui,.int .i64 mi,.slice xa L.length xc,.slice ya M.length yc,.int .i64 0,.bool false,.int .i64 0,.bool false,.int .i64 0,.int .i64 (w+M.length)])
 obtain⟨h3',h3,u3,hh3',hh3,N3',N3,s3,hz3⟩:=kZ u2 h2 [.int .i64 0,.int .i64 0,.int .i64 0,.slice none 0 0,.slice none 0 0,.int .i64 0,.bool false,.int .i64 0,.bool false,.int .i64 0,.int .i64 0] Nd 36 (by rw[hNd];rfl)
 obtain⟨nb,hnb⟩:=kJ h2.size
 rw[<-hnb]at N3' N3 hh3
 have N3o:=N3
 rw[hNd]at hh3 N3
 have B3:=B2.sZ s3
 have R3:=R2.sZ s3
 have st3:=st2.tZ s3
 have N3'1:=N3'.1
 have N31:=N3.1
 have B31:=B3.1
 obtain⟨ab,ao,ae,hab,hau,haz,har⟩:=(iA.mono st3.ge).row mi _ hma
 obtain⟨C,hCe⟩:=kJ ((lJ p).2)
 rw[Ae,<-hCe]at har
 obtain⟨sv,har,is⟩:=har
 obtain⟨sx,sc,rfl,-,-⟩:=is.sl
 simp only[Ig,qX,aG,aP]at har hau haz
 obtain⟨r0,r1⟩:=har
 have hr0:(lJ p).1=p.1:=rfl
 rw[hr0]at r0
 subst ae
 obtain⟨h4',h4,u4,hh4',hh4,S4',S4,s4,hz4⟩:=kZ u3 h3 [.int .i64 0,.slice none 0 0] [.int .i64 p.1,.slice sx C.length sc] 165 rfl
 obtain⟨sb,hsb⟩:=kJ h3.size
 rw[<-hsb]at S4' S4 hh4
 obtain⟨h5',h5,u5,hh5',hh5,O5',O5,s5,hz5⟩:=kZ u4 h4 [.int .i64 0,.slice none 0 0] [.int .i64 p.1,.slice none 0 0] 59 rfl
 obtain⟨ob,hob⟩:=kJ h4.size
 rw[<-hob]at O5' O5 hh5
 have S4'1:=S4'.1
 have S41:=S4.1
 have O5'1:=O5'.1
 have S5:=S4.sZ s5
 have N5:=(N3.sZ s4).sZ s5
 have N5o:=(N3o.sZ s4).sZ s5
 have B5:=(B3.sZ s4).sZ s5
 have R5:=(R3.sZ s4).sZ s5
 have st5:=(st3.tZ s4).tZ s5
 have N51:=N5.1
 have B51:=B5.1
 have S51:=S5.1
 obtain⟨eb,eo,ee,heb,heu,hez,her⟩:=(iN.mono st5.ge).row ui _ hx
 rw[oL]at her
 obtain⟨_,_,her,-,-⟩:=her
 simp only[rF,qR,aG,aP]at her heu hez
 obtain⟨-,-,-,-,-,-,-,-,-,-,t10⟩:=her
 rw[hxw]at t10
 cases ee
 have hob0:h.size<=ob:=by rw[hob];exact(st3.tZ s4).ge.sz
 have hrb0:h.size<=rb:=by rw[hrb];exact p1.ge.sz
 have hnob:nb<ob:=by rw[hob];exact(N3.sZ s4).1
 have hrob:rb<ob:=by rw[hob];exact(R3.sZ s4).1
 simp(disch:=first|omega|simp only[zz];try omega;done) only[↓reduceIte,go_sem,<-hh1,<-hb1,<-hh2,<-hrb,B2.at,B2.2.1,af (show(i:Int)<(N.length:Nat) by omega),af (show(0:Int)<=(i:Int) by omega),q0,q1,q2,q3,q4,q5,q6,q7,q8,q9,q10,<-hnb,<-hh3',N3'.2.1,N3'.2.2.1,<-hh3,N3.at,N3.2.1,au (show¬(mi:Int)<0 by omega),au (show¬(A.length:Int)<=(mi:Int) by omega),B3.at,B3.2.1,af (show(mi:Int)<(A.length:Nat) by omega),af (show(0:Int)<=(mi:Int) by omega),r0,r1,<-hsb,<-hh4',S4'.2.1,S4'.2.2.1,<-hh4,S4.at,S4.2.1,<-hob,<-hh5',O5'.2.1,O5'.2.2.1,<-hh5,B5.at,B5.2.1,N5.at,N5.2.1,af (show(ui:Int)<(N.length:Nat) by omega),af (show(0:Int)<=(ui:Int) by omega),t10,S5.at,S5.2.1]
 have hCl:C.length=p.2.length:=by rw[hCe];unfold lJ;rw[aQ]
 have h8:=hpw.2.1
 have hLl:L.length<=8:=by rw[hL];exact aY xx h8
 have hMl:M.length<=8:=by rw[hM];exact aY Ad h8
 have hLb: ∀x∈L,-1<=x.2/\x.2<=16:=λx hx=>by
  rw[hL]at hx
  obtain⟨k,s,h1,-,h3,h4,h5⟩:=Ab hx
  have:=hpw.2.2 s (aI h1)
  omega
 have hMb: ∀x∈M,0<=x/\x<=8:=λx hx=>by
  rw[hM]at hx
  obtain⟨k,s,h1,-,-,h4⟩:=Ng hx
  have:=(aJ.1 h1).1
  omega
 have iL5:=ixv.mono (s3.ge.trans (s4.ge.trans s5.ge))
 have iM5:=ixw.mono (s3.ge.trans (s4.ge.trans s5.ge))
 have iC5:=is.mono (s4.ge.trans s5.ge)
 obtain⟨I,hI⟩:=kJ (α:=Nat->lm->H->Prop) λk σ h'=> ∃(u':U) (v:Value),σ 4= .pointer (some ⟨rb,0,none⟩)/\σ 6= .pointer (some ⟨nb,0,none⟩)/\σ 8= .pointer (some ⟨ob,0,none⟩)/\σ 9= .int .i64 w/\σ 52= .slice sx C.length sc/\σ 53= .int .i64 (C.length:Nat)/\σ 54= .int .i64 k/\k<=C.length/\kG S0 u h u' h'/\Ge u5 h5 u' h'/\kV u' h' nb Nd/\kV u' h' rb [.int .i64 0,.slice none 0 0]/\kV u' h' ob [.int .i64 p.1,v]/\mr (ob+1) u' h' v (p.2.take k)
 refine kH I (λj=>C.length - j) 0 (by rw[hI];exact⟨u5,.slice none 0 0,by simp [kF],by simp [kF],by simp [kF],by simp [kF],by simp [kF],by simp [kF],by simp [kF],by omega,st5,.refl _ _,N5o,R5,O5,.nil _ _ _⟩) ?_
 clear hh1 hh2 hh3 hh3' hh4 hh4' hh5 hh5' B1 B2 B3 B5 R2 R3 R5 N3 N3' N3o N5 N5o S4 S4' S5 O5 O5' st2 st3 st5 B21 N3'1 N31 B31 S4'1 S41 O5'1 N51 B51 S51 q0 q1 q2 q3 q4 q5 q6 q7 q8 q9 q10 r0 r1 t10 ixv ixw is
 intro k σ h' hi'
 rw[hI]at hi'
 obtain⟨u',v,e4,e6,e8,e9,e52,e53,e54,hk',st,ge,Nb,R,O,ow⟩:=hi'
 have Nb1:=Nb.1
 have R1:=R.1
 have O1:=O.1
 obtain⟨oa,oc,rfl,-,-⟩:=ow.sl
 have nob': ¬kN (.slice oa (p.2.take k).length oc) ob:=λq=>by have:=ow.ge q;omega
 by_cases hlt:k<C.length
 case neg=>
  rw[aK (by omega)]at O ow nob'
  have sR:=kG.sets (S:=λb=>b=rb) u' h' (b:=rb) (o:=0) [.int .i64 p.1,.slice oa p.2.length oc] rfl (by rw[R.2.2.2.1];exact az _) (by rw[R.2.1];exact aH _)
  have RH:=R.sets (l:=[.int .i64 p.1,.slice oa p.2.length oc]) rfl
  obtain⟨h9,hh9⟩:=kJ (kU h' rb 0 [.int .i64 p.1,.slice oa p.2.length oc])
  rw[<-hh9]at sR RH
  have RH1:=RH.1
  have hK:=hK u' h9 _ (st.own sR λb q=>by rw[q];exact hrb0) (ow.iZ.mono sR.ge)
  simp(disch:=first|omega|simp only[zz];try omega;done) only[↓reduceIte,go_sem,e4,e8,e53,e54,au (show¬(k:Int)<(C.length:Nat) by omega),O.at,O.2.1,R.2.1,R.2.2.1,<-hh9,RH.at,RH.2.1]
  exact hK
 obtain⟨y,hy⟩: ∃y,p.2[k]? =some y:=⟨p.2[k]'(by omega),by rw[aL]⟩
 have hc:C[k]? =some (mW p.2 y):=by
  rw[hCe]
  show(p.2.map (mW p.2))[k]? =_
  rw[aR,hy];rfl
 have hy0:=hpw.2.2 y (aI hy)
 have tk:p.2.take (k+1)=p.2.take k++[y]:=by rw[aS,hy];rfl
 have htl:(p.2.take k).length<=8:=by rw[aT];omega
 obtain⟨gb,go,rfl,hgb,hgu,hgz,hgr⟩:=(iC5.mono ge).row k _ hc
 rw[lD]at hgr
 simp only[nM,oV,aG,aP,aZ]at hgr hgu hgz
 have e52':σ 52= .slice (some ⟨gb,go,none⟩) C.length sc:=e52
 -- a slot is put behind
 have fin: ∀(σ'':lm) (u8:U) (h8 h9:H) (a8:Option Addr) (n8 c8:Nat) (u7:U) (h7:H),σ'' 54= .int .i64 ((k:Int)+1)->(∀i,(i=4\/i=6\/i=8\/i=9\/i=52\/i=53)->σ'' i=σ i)->kG S0 u' h' u7 h7->mr (ob+1) u8 h8 (.slice a8 n8 c8) (p.2.take k++[y])->kG (kN (.slice oa (p.2.take k).length oc)) u7 h7 u8 h8->(∀b,kN (.slice a8 n8 c8) b->kN (.slice oa (p.2.take k).length oc) b\/h7.size<=b)->h9=lh h8 ob 1 (.slice a8 n8 c8)-> ∃j,I j σ'' h9/\C.length - j<C.length - k:=by
  intro σ'' u8 h8 h9 a8 n8 c8 u7 h7 g54 gσ s7 o8 s8 hO8 hh9
  have O7:=O.sZ s7
  have O8:=O7.step s8 nob'
  have s9:=kG.set (S:=λb=>b=ob) u8 h8 (b:=ob) (o:=1) (.slice a8 n8 c8) rfl (by rw[O8.2.2.2.1];exact az _)
  rw[<-hh9]at s9
  have n9: ¬kN (.slice a8 n8 c8) ob:=λq=>(hO8 _ q).elim nob' λq=>by have:=O7.1;omega
  have ge8: ∀b,kN (.slice oa (p.2.take k).length oc) b->ob+1<=b:=λb q=>ow.ge q
  refine⟨k+1,?_,by omega⟩
  rw[hI]
  refine⟨u8,.slice a8 n8 c8,(gσ 4 (by omega)).trans e4,(gσ 6 (by omega)).trans e6,(gσ 8 (by omega)).trans e8,(gσ 9 (by omega)).trans e9,(gσ 52 (by omega)).trans e52',(gσ 53 (by omega)).trans e53,by rw[g54];simp,hlt,((st.tZ s7).own s8 λb q=>by have:=ge8 b q;omega).own s9 λb q=>by rw[q];exact hob0,ge.trans (s7.ge.trans (s8.ge.trans s9.ge)),((Nb.sZ s7).step s8 λq=>by have:=ge8 _ q;omega).step s9 (by omega),((R.sZ s7).step s8 λq=>by have:=ge8 _ q;omega).step s9 (by omega),?_,?_⟩
  ·rw[hh9];exact O8.set (i:=1) (v:= .slice a8 n8 c8) (by simp)
  ·rw[tk];exact o8.step s9 λb q e=>n9 (e▸q)
 obtain⟨yb,yn⟩:=y
 simp only at hy0
 cases yb with
 |false=>
  have hce:mW p.2 (false,yn)=yn:=rfl
  rw[hce]at hgr
  simp(disch:=first|omega|simp only[zz];try omega;done) only[↓reduceIte,go_sem,aZ,e8,e52',e53,e54,af (show(k:Int)<(C.length:Nat) by omega),af (show(0:Int)<=(k:Int) by omega),hgr,af hy0,O.at,O.2.1]
  refine kK (by simp only[]) ow (x:=(false,yn)) (by rw[vY]) rfl rfl (by omega) (by omega) λa8 n8 c8 u8 h8 o8 s8 hO8=>⟨(λp q=>nomatch q),?_⟩
  have O8:=O.step s8 nob'
  have O81:=O8.1
  simp(disch:=first|omega|simp only[zz];try omega;done) only[↓reduceIte,go_sem,e8,e54,O8.2.1,O8.2.2.1]
  exact fin _ u8 h8 _ a8 n8 c8 u' h' (by simp [kF]) (λi hi=>by rcases hi with rfl|rfl|rfl|rfl|rfl|rfl<;>simp [kF]) (.refl _ _ _) o8 s8 hO8 rfl
 |true=>
  obtain⟨j,hj⟩:=kJ (mq p.2 yn)
  have hce:mW p.2 (true,yn)= -1 - (j:Int):=by rw[hj];rfl
  rw[hce]at hgr
  have hjk:j<=k:=by rw[hj];exact xC hy rfl rfl
  have hback:Eg w j 0 (xD j (-1) L) M=yn:=by rw[hj,hL,hM];exact LB hwf hy
  have Nb':=Nb
  rw[hNd]at Nb'
  have e2:(-1:Int) - (-1 - (j:Int))=(j:Int):=by omega
  simp(disch:=first|omega|simp only[zz];try omega;done) only[↓reduceIte,go_sem,aZ,e6,e52',e53,e54,af (show(k:Int)<(C.length:Nat) by omega),af (show(0:Int)<=(k:Int) by omega),hgr,au (show¬(0:Int)<= -1 - (j:Int) by omega),e2,Nb'.at,Nb'.2.1]
  have hkb:k<=8:=by omega
  obtain⟨J,hJ⟩:=kJ (α:=Nat->lm->H->Prop) λm τ h''=> ∃u'':U,(∀i,(i=4\/i=6\/i=8\/i=9\/i=52\/i=53)->τ i=σ i)/\τ 54= .int .i64 k/\τ 10= .int .i64 k/\τ 12= .int .i64 j/\τ 13= .int .i64 (xD j (-1) (L.take m))/\τ 71= .slice xa L.length xc/\τ 72= .int .i64 (L.length:Nat)/\τ 73= .int .i64 m/\m<=L.length/\kG S0 u' h' u'' h''
  refine kH J (λm=>L.length - m) 0 (by rw[hJ];exact⟨u',λi hi=>by rcases hi with rfl|rfl|rfl|rfl|rfl|rfl<;>simp [kF],by simp [kF,e54],by simp [kF],by simp [kF],by simp [kF,xD],by simp [kF],by simp [kF],by simp [kF],by omega,.refl _ _ _⟩) ?_
  intro m τ h2 hj2
  rw[hJ]at hj2
  obtain⟨u2,gs,g54,g10,g12,g13,g71,g72,g73,hm,st2⟩:=hj2
  have f4:=(gs 4 (by omega)).trans e4
  have f6:=(gs 6 (by omega)).trans e6
  have f8:=(gs 8 (by omega)).trans e8
  have f9:=(gs 9 (by omega)).trans e9
  by_cases hlt2:m<L.length
  case pos=>
   obtain⟨x,hx⟩:=uu hlt2
   obtain⟨db,do',rfl,hdb,hdu,hdz,hdr⟩:=(iL5.mono (ge.trans st2.ge)).row m x hx
   rw[Wy]at hdr
   simp only[abu,qX,aG,aP]at hdr hdu hdz
   obtain⟨d0,d1⟩:=hdr
   have tL:L.take (m+1)=L.take m++[x]:=by rw[aS,hx];rfl
   obtain⟨h6',h6,u6,hh6',hh6,D6',D6,s6,hz6⟩:=kZ u2 h2 [.int .i64 0,.int .i64 0] [.int .i64 x.1,.int .i64 x.2] 124 rfl
   have D61:=D6.1
   have D6'1:=D6'.1
   obtain⟨lb,hlb⟩:=kJ h2.size
   rw[<-hlb]at D6' D6 D61 D6'1 hh6
   have done: ∀(τ':lm),τ' 13= .int .i64 (xD j (-1) (L.take (m+1)))->τ' 73= .int .i64 ((m:Int)+1)->(∀i,i<73->i≠13->i≠15->τ' i=τ i)-> ∃y,J y τ' h6/\L.length - y<L.length - m:=λτ' z13 z73 zσ=>by
    refine⟨m+1,?_,by omega⟩
    rw[hJ]
    exact⟨u6,λi hi=>(zσ i (by omega) (by omega) (by omega)).trans (gs i hi),(zσ 54 (by omega) (by omega) (by omega)).trans g54,(zσ 10 (by omega) (by omega) (by omega)).trans g10,(zσ 12 (by omega) (by omega) (by omega)).trans g12,z13,(zσ 71 (by omega) (by omega) (by omega)).trans g71,(zσ 72 (by omega) (by omega) (by omega)).trans g72,by rw[z73];simp,hlt2,st2.tZ s6⟩
   by_cases hxj:x.1=(j:Int)
   ·simp(disch:=first|omega|simp only[zz];try omega;done) only[↓reduceIte,go_sem,g12,g71,g72,g73,af (show(m:Int)<(L.length:Nat) by omega),d0,d1,<-hlb,<-hh6',D6'.2.1,D6'.2.2.1,<-hh6,D6.at,D6.2.1,af hxj]
    exact done _ (by simp [kF,tL,HZ,hxj]) (by simp [kF]) (λi z1 z2 z3=>by simp only[kF];repeat rw[ah (by omega)])
   ·simp(disch:=first|omega|simp only[zz];try omega;done) only[↓reduceIte,go_sem,g12,g71,g72,g73,af (show(m:Int)<(L.length:Nat) by omega),d0,d1,<-hlb,<-hh6',D6'.2.1,D6'.2.2.1,<-hh6,D6.at,D6.2.1,au hxj]
    exact done _ (by simp [kF,tL,HZ,hxj,g13]) (by simp [kF]) (λi z1 z2 z3=>by simp only[kF];repeat rw[ah (by omega)])
  rw[aK (by omega)]at g13
  have N2:=Nb'.sZ st2
  have N21:=N2.1
  simp(disch:=first|omega|simp only[zz];try omega;done) only[↓reduceIte,go_sem,f6,g72,g73,au (show¬(m:Int)<(L.length:Nat) by omega),N2.at,N2.2.1]
  obtain⟨Q,hQ⟩:=kJ (α:=Nat->lm->H->Prop) λm τ' h''=>(∀i,(i=4\/i=6\/i=8\/i=9\/i=52\/i=53)->τ' i=σ i)/\τ' 54= .int .i64 k/\τ' 10= .int .i64 k/\τ' 12= .int .i64 j/\τ' 13= .int .i64 (Eg w j 0 (xD j (-1) L) (M.take m))/\τ' 85= .slice ya M.length yc/\τ' 86= .int .i64 (M.length:Nat)/\τ' 87= .int .i64 m/\m<=M.length/\h''=h2
  refine kH Q (λm=>M.length - m) 0 (by rw[hQ];exact⟨λi hi=>by rw[<-gs i hi];rcases hi with rfl|rfl|rfl|rfl|rfl|rfl<;>simp [kF],by simp [kF,g54],by simp [kF,g10],by simp [kF,g12],by simp [kF,g13,Eg],by simp [kF],by simp [kF],by simp [kF],by omega,rfl⟩) ?_
  clear f4 f6 f8 f9 g54 g10 g12 g13 g71 g72 g73 gs hm hlt2
  clear m τ
  intro m τ h'' hj2
  rw[hQ]at hj2
  obtain⟨gs,g54,g10,g12,g13,g85,g86,g87,hm,rfl⟩:=hj2
  have f8:=(gs 8 (by omega)).trans e8
  have f9:=(gs 9 (by omega)).trans e9
  by_cases hlt2:m<M.length
  case pos=>
   obtain⟨x,hx⟩:=uu hlt2
   obtain⟨db,do',rfl,hdb,hdu,hdz,hdr⟩:=(iM5.mono (ge.trans st2.ge)).row m x hx
   rw[lD]at hdr
   simp only[nM,oV,aG,aP,aZ]at hdr hdu hdz
   have tM:M.take (m+1)=M.take m++[x]:=by rw[aS,hx];rfl
   have tMl:(M.take m).length=m:=by rw[aT];omega
   have done: ∀(τ':lm),τ' 13= .int .i64 (Eg w j 0 (xD j (-1) L) (M.take (m+1)))->τ' 87= .int .i64 ((m:Int)+1)->(∀i,i<87->i≠13->i≠16->i≠17->τ' i=τ i)-> ∃y,Q y τ' h''/\M.length - y<M.length - m:=λτ' z13 z87 zσ=>by
    refine⟨m+1,?_,by omega⟩
    rw[hQ]
    exact⟨λi hi=>(zσ i (by omega) (by omega) (by omega) (by omega)).trans (gs i hi),(zσ 54 (by omega) (by omega) (by omega) (by omega)).trans g54,(zσ 10 (by omega) (by omega) (by omega) (by omega)).trans g10,(zσ 12 (by omega) (by omega) (by omega) (by omega)).trans g12,z13,(zσ 85 (by omega) (by omega) (by omega) (by omega)).trans g85,(zσ 86 (by omega) (by omega) (by omega) (by omega)).trans g86,by rw[z87];simp,hlt2,rfl⟩
   by_cases hxj:x=(j:Int)
   ·simp(disch:=first|omega|simp only[zz];try omega;done) only[↓reduceIte,go_sem,aZ,f9,g12,g85,g86,g87,af (show(m:Int)<(M.length:Nat) by omega),af (show(0:Int)<=(m:Int) by omega),hdr,af hxj]
    exact done _ (by simp only[kF];rw[tM,DF,ay hxj,tMl,bY];simp) (by simp [kF]) (λi z1 z2 z3 z4=>by simp only[kF];repeat rw[ah (by omega)])
   ·simp(disch:=first|omega|simp only[zz];try omega;done) only[↓reduceIte,go_sem,aZ,g12,g85,g86,g87,af (show(m:Int)<(M.length:Nat) by omega),af (show(0:Int)<=(m:Int) by omega),hdr,au hxj]
    exact done _ (by rw[tM,DF,ah hxj];simp [kF,g13]) (by simp [kF]) (λi z1 z2 z3 z4=>by simp only[kF];repeat rw[ah (by omega)])
  rw[aK (by omega),hback]at g13
  have O2:=O.sZ st2
  have O21:=O2.1
  have ow2:=ow.sZ st2
  simp(disch:=first|omega|simp only[zz];try omega;done) only[↓reduceIte,go_sem,g10,g12,g13,g86,g87,f8,au (show¬(m:Int)<(M.length:Nat) by omega),au (show¬(j:Int)<0 by omega),au (show¬(k:Int)<(j:Int) by omega),au (show¬yn<0 by omega),O2.at,O2.2.1]
  refine kK (by simp only[]) ow2 (x:=(true,yn)) (by rw[vY]) rfl rfl (by have:=O21;omega) (by omega) λa8 n8 c8 u8 h8 o8 s8 hO8=>⟨(λp q=>nomatch q),?_⟩
  have O8:=O2.step s8 nob'
  have O81:=O8.1
  simp(disch:=first|omega|simp only[zz];try omega;done) only[↓reduceIte,go_sem,f8,g54,O8.2.1,O8.2.2.1]
  exact fin _ u8 h8 _ a8 n8 c8 u2 h'' (by simp [kF]) (λi hi=>by rw[<-gs i hi];rcases hi with rfl|rfl|rfl|rfl|rfl|rfl<;>simp [kF]) st2 o8 s8 hO8 rfl
end Go.Proofs.Z
namespace Edict
open Go.Ev
theorem Yj{A:List lY}{N:List lG}{W:List (List Nat)}{E:List Nat}(P:DL A N W E){cs:List oU}{ws:List Nat}{e:Nat}(p:Path A N cs ws e){i:Nat}{c:oU}(hc:cs[i]? =some c): ∃w u,ws[i]? =some w/\0<w/\w<N.length/\Nj A N w u (cs.take i) (ws.take i) c/\(i=0->u=0)/\ ∀j,i=j+1->ws[j]? =some u:=by
 have hi:=(aJ.1 hc).1
 have hl:=p.len
 obtain⟨w,pw,hw⟩:=p.take (i+1) (by omega)
 have hw:=hw i rfl
 have tc:cs.take (i+1)=cs.take i++[c]:=by rw[aS,hc];rfl
 have tw:ws.take (i+1)=ws.take i++[w]:=by rw[aS,hw];rfl
 have hwN:=pw.lt P.n0
 have hw0:0<w:=by
  rcases pw.fst with⟨-,h,-⟩|⟨h,-⟩
  ·rw[tc]at h;simp at h
  ·exact h
 obtain⟨u,cs',ws',c',nd⟩:=P.all w hw0 hwN
 obtain⟨pu,h1,h2,h3,h4,h5,h6,h7,h8⟩:=id nd
 obtain⟨s1,s2⟩:=pw.same (.snoc pu h1 h2 h3 h4 h5)
 rw[tc]at s1
 rw[tw]at s2
 obtain⟨e1,e2⟩:=gD s1 rfl
 obtain⟨e3,-⟩:=gD s2 rfl
 simp only[aG,aP]at e2
 subst e2
 rw[<-e1,<-e3]at nd pu
 refine⟨w,u,hw,hw0,hwN,nd,λh0=> ?_,λj hj=> ?_⟩
 ·subst h0
  rcases pu.fst with⟨h,-,-⟩|⟨-,a,_,_,_,h,_⟩
  ·exact h
  ·simp at h
 ·obtain⟨v,pv,hv⟩:=p.take i (by omega)
  rw[(pu.one P.nd pv).1]
  exact hv j hj
theorem Uc(r:qW):(kQ r).length=r.2.1.length+r.2.2.1.length+r.2.2.2.1.length:=by unfold kQ;simp [dY]
theorem af2{A:List lY}{u w w':Int}{c:oU}(h:vO w w' c):(vC A u w c).2.2.2.2.2.1=c.2.2:=by
 unfold vC
 split
 ·rfl
 ·rename_i h2
  obtain⟨-,e,-⟩:=h.resolve_right λq=>h2 q.1
  exact e.symm
end Edict
namespace Go.Proofs.Z
open Go Go.Ev Edict
def KL(vs:List Value)(h:H)(K:Value->H->Prop):Prop:= ∃(u:U) (va vn ve wv v0 v1 v2 v3 v4:Value) (A:List lY) (N:List lG) (W:List (List Nat)) (E:List Nat) (r:qW) (ws:List Nat) (e:Nat),vs=[.agg #[va,vn,ve],wv,.agg (Ff r v0 v1 v2 v3 v4).toArray]/\kM u h va A/\kM u h vn N/\mg ve=true/\DL A N W E/\kM u h wv (lX ws)/\Zn u h r v0 v1 v2 v3 v4/\Path A N (kQ r) ws e/\(kQ r).length<=16/\ ∀u' h',kG S0 u h u' h'->K (.bool true) h'
def Qv:mG:=λf vs h K _=>(f=37/\UJ vs h K)\/(f=38/\abh vs h K)\/(f=39/\DU vs h K)
theorem HY:nz Tryz.prog Qv:=mK KZ (mK Yk (qd CE))
theorem MS{vs:List Value}{h:H}{K:Value->H->Prop}{KP:List PanicEntry->H->Prop}(hC:KL vs h K):ma Tryz.prog 12 vs h K KP:=by
 obtain⟨u,va,vn,ve,wv,v0,v1,v2,v3,v4,A,N,W,E,r,ws,e,rfl,iA,iN,oke,P,iw,rv,pth,hc16,hK⟩:=hC
 refine kP 9904275892956330156089212911 [(none,(.t 6))] HY Tryz.func12 (by kernel_rfl) (by conv=>lhs;cbv;try simp only[mF]) ?_
 obtain⟨aa,ac,rfl,-,-⟩:=iA.sl
 obtain⟨na,nc,rfl,-,-⟩:=iN.sl
 obtain⟨wa,wc,rfl,-,-⟩:=iw.sl
 have hA:=P.al
 have hN:=P.nl
 have hwl:(lX ws).length=ws.length:=by unfold lX;simp
 have hlen:=pth.len
 have hcl:=Uc r
 obtain⟨i0,i1,i2,i3,i4⟩:=id rv
 obtain⟨a0,b0,rfl,-,-⟩:=i0.sl
 obtain⟨a1,b1,rfl,-,-⟩:=i1.sl
 obtain⟨a2,b2,rfl,-,-⟩:=i2.sl
 obtain⟨a3,b3,rfl,-,-⟩:=i3.sl
 obtain⟨a4,b4,rfl,-,-⟩:=i4.sl
 obtain⟨h1,u1,hh1,zh1,p1,B1⟩:=kL u h [.slice aa A.length ac,.slice na N.length nc,ve] 26
 obtain⟨bb1,hb1⟩:=kJ h.size
 rw[<-hb1]at B1
 obtain⟨h2,u2,hh2,zh2,p2,C2⟩:=kL u1 h1 (Ff r (.slice a0 r.1.2.length b0) (.slice a1 r.2.1.length b1) (.slice a2 r.2.2.1.length b2) (.slice a3 r.2.2.2.1.length b3) (.slice a4 r.2.2.2.2.1.length b4)) 63
 obtain⟨cb,hcb⟩:=kJ h1.size
 rw[<-hcb]at C2
 obtain⟨RL,hRL⟩:=kJ (α:=List Value) (Ff r (.slice a0 r.1.2.length b0) (.slice a1 r.2.1.length b1) (.slice a2 r.2.2.1.length b2) (.slice a3 r.2.2.2.1.length b3) (.slice a4 r.2.2.2.2.1.length b4))
 have C2o:=C2
 rw[<-hRL]at C2o
 simp only[Ff]at hh2 C2 ⊢
 have B2:=B1.sZ p2
 have st2:=p1.tZ p2
 have B21:=B2.1
 have C21:=C2.1
 rw[hwl]
 simp(disch:=first|omega|simp only[zz];try omega;done) only[↓reduceIte,go_sem,<-hh1,<-hb1,<-hh2,<-hcb,C2.at,C2.2.1,af (show(ws.length:Int)=r.2.1.length+r.2.2.1.length+r.2.2.2.1.length by omega)]
 obtain⟨I,hI⟩:=kJ (α:=Nat->lm->H->Prop) λk σ h'=> ∃(u':U) (up:Nat),σ 3= .pointer (some ⟨bb1,0,none⟩)/\σ 5= .pointer (some ⟨cb,0,none⟩)/\σ 7= .int .i64 up/\σ 30= .slice wa ws.length wc/\σ 31= .int .i64 (ws.length:Nat)/\σ 32= .int .i64 k/\k<=ws.length/\(k=0->up=0)/\(∀j,k=j+1->ws[j]? =some up)/\kG S0 u h u' h'/\kV u' h' bb1 [.slice aa A.length ac,.slice na N.length nc,ve]/\kV u' h' cb RL
 refine kH I (λj=>ws.length - j) 0 (by rw[hI];exact⟨u2,0,by simp [kF],by simp [kF],by simp [kF],by simp [kF],by simp [kF],by simp [kF],by omega,λ_=>rfl,λj hj=>by omega,st2,B2,C2o⟩) ?_
 clear hh1 hh2 B1 B2 C2 C2o B21 C21 st2
 intro k σ h' hi
 rw[hI]at hi
 obtain⟨u',up,e3,e5,e7,e30,e31,e32,hk,hup0,hup,st,B,C⟩:=hi
 rw[hRL]at C
 simp only[Ff]at C
 have B0:=B.1
 have C0:=C.1
 by_cases hlt:k<ws.length
 case neg=>
  have hK:=hK u' h' st
  simp(disch:=first|omega|simp only[zz];try omega;done) only[↓reduceIte,go_sem,e31,e32,au (show¬(k:Int)<(ws.length:Nat) by omega)]
  exact hK
 obtain⟨c,hc⟩: ∃c,(kQ r)[k]? =some c:=⟨(kQ r)[k]'(by omega),by rw[aL]⟩
 obtain⟨w,ui,hw,hw0,hwN,nd,hu0,hu1⟩:=Yj P pth hc
 have hupu:up=ui:=by
  rcases fU k with h0|h0
  ·rw[hup0 h0,hu0 h0]
  ·have a1:=hup (k - 1) (by omega)
   have a2:=hu1 (k - 1) (by omega)
   rw[a1]at a2;exact bu a2
 subst hupu
 obtain⟨-,huw,-,hn,hcnd,hsh,-,-,-⟩:=id nd
 obtain⟨n,hne⟩:=kJ (vC A up (wd N up) c)
 rw[<-hne]at hn
 have hn1:n.2.1=(up:Int):=by rw[hne];exact Fu.2
 have hnk:n.1=c.1:=by rw[hne];exact Fu.1
 have hnt:n.2.2.2.2.2.1=c.2.2:=by rw[hne];exact af2 hcnd
 have hwi:(lX ws)[k]? =some (w:Int):=by unfold lX;rw[aR,hw];rfl
 obtain⟨gb,go,rfl,hgb,hgu,hgz,hgr⟩:=(iw.mono st.ge).row k _ hwi
 rw[lD]at hgr
 simp only[nM,oV,aG,aP,aZ]at hgr hgu hgz
 have e30':σ 30= .slice (some ⟨gb,go,none⟩) ws.length wc:=e30
 obtain⟨pb,po,pe,hpb,hpu,hpz,hpr⟩:=(iN.mono st.ge).row w n hn
 rw[oL]at hpr
 obtain⟨xv,xw,hpr,ixv,ixw⟩:=hpr
 obtain⟨xa,xc,rfl,-,-⟩:=ixv.sl
 obtain⟨ya,yc,rfl,-,-⟩:=ixw.sl
 simp only[rF,qR,aG,aP]at hpr hpu hpz
 obtain⟨q0,q1,-⟩:=hpr
 cases pe
 rw[hn1]at q1
 simp(disch:=first|omega|simp only[zz];try omega;done) only[↓reduceIte,go_sem,aZ,e3,e5,e7,e30',e31,e32,af (show(k:Int)<(ws.length:Nat) by omega),af (show(0:Int)<=(k:Int) by omega),hgr,au (show¬(w:Int)<1 by omega),au (show¬(N.length:Int)<=(w:Int) by omega),B.at,B.2.1,af (show(w:Int)<(N.length:Nat) by omega),af (show(0:Int)<=(w:Int) by omega),q1,C.at,C.2.1]
 refine kD (.inl ⟨rfl,u',r,_,_,_,_,_,k,c,rfl,rv.mono st.ge,by omega,by omega,by omega,hc,λu2 h2 wq s2 iq=>⟨(λp q=>nomatch q),?_⟩⟩)
 obtain⟨qa,qc,rfl,-,-⟩:=iq.sl
 obtain⟨h3',u3,hh3,zh3,p3,P3⟩:=kL u2 h2 [.int .i64 0,.slice none 0 0] 59
 obtain⟨qb,hqb⟩:=kJ h2.size
 rw[<-hqb]at P3
 obtain⟨h4',u4,hh4,zh4,p4,T4⟩:=kL u3 h3' [.int .i64 0,.bool false,.int .i64 0,.bool false,.int .i64 0] 34
 obtain⟨tb,htb⟩:=kJ h3'.size
 rw[<-htb]at T4
 have P4:=P3.sZ p4
 have st4:=((st.tZ s2).tZ p3).tZ p4
 have hqt:qb<tb:=by rw[htb];exact P3.1
 have hq0:h.size<=qb:=by rw[hqb];exact(st.tZ s2).ge.sz
 have B4:=((B.sZ s2).sZ p3).sZ p4
 have C4:=((C.sZ s2).sZ p3).sZ p4
 have hbq:bb1<qb:=by rw[hqb];exact(B.sZ s2).1
 have hcq:cb<qb:=by rw[hqb];exact(C.sZ s2).1
 have s5:=kG.sets (S:=λb=>b=qb) u4 h4' (b:=qb) (o:=0) [.int .i64 c.2.1.1,.slice qa c.2.1.2.length qc] rfl (by rw[P4.2.2.2.1];exact az _) (by rw[P4.2.1];exact aH _)
 have P5:=P4.sets (l:=[.int .i64 c.2.1.1,.slice qa c.2.1.2.length qc]) rfl
 obtain⟨h5,hh5⟩:=kJ (kU h4' qb 0 [.int .i64 c.2.1.1,.slice qa c.2.1.2.length qc])
 rw[<-hh5]at s5 P5
 have T5:=T4.step s5 (by omega)
 have s6:=kG.sets (S:=λb=>b=tb) u4 h5 (b:=tb) (o:=0) (zt c.2.2) rfl (by rw[T5.2.2.2.1];exact az _) (by rw[T5.2.1];exact aH _)
 have T6:=T5.sets (l:=zt c.2.2) rfl
 have P6:=P5.step s6
 obtain⟨h6,hh6⟩:=kJ (kU h5 tb 0 (zt c.2.2))
 rw[<-hh6]at s6 T6 P6
 have P6:=P6 (by omega)
 have B6:=(B4.step s5 (by omega)).step s6 (by omega)
 have C6:=(C4.step s5 (by omega)).step s6 (by omega)
 have st6:=(st4.own s5 λb q=>by rw[q];exact hq0).own s6 λb q=>by rw[q];omega
 have iq6:=iq.mono ((p3.ge.trans p4.ge).trans (s5.ge.trans s6.ge))
 simp only[zt]at hh6 T6 ⊢
 have P41:=P4.1
 have T51:=T5.1
 have T61:=T6.1
 have P61:=P6.1
 have B61:=B6.1
 obtain⟨eb,eo,ee,heb,heu,hez,her⟩:=(iN.mono st6.ge).row w n hn
 rw[oL]at her
 obtain⟨zv,zw,her,izv,izw⟩:=her
 obtain⟨za,zc,rfl,-,-⟩:=izv.sl
 obtain⟨ta,tc,rfl,-,-⟩:=izw.sl
 simp only[rF,qR,aG,aP]at her heu hez
 rw[hnk,hnt]at her
 obtain⟨r0,r1,r2,r3,r4,r5,r6,r7,r8,r9,r10⟩:=her
 cases ee
 obtain⟨h7',h7,u7,hh7',hh7,D7',D7,s7,hz7⟩:=kZ u4 h6 [.int .i64 0,.int .i64 0,.int .i64 0,.slice none 0 0,.slice none 0 0,.int .i64 0,.bool false,.int .i64 0,.bool false,.int .i64 0,.int .i64 0] [.int .i64 c.1,.int .i64 n.2.1,.int .i64 n.2.2.1,.slice za n.2.2.2.1.length zc,.slice ta n.2.2.2.2.1.length tc,.int .i64 c.2.2.1,.bool c.2.2.2.1.1,.int .i64 c.2.2.2.1.2,.bool c.2.2.2.2.1,.int .i64 c.2.2.2.2.2,.int .i64 n.2.2.2.2.2.2] 36 rfl
 obtain⟨db,hdb⟩:=kJ h6.size
 rw[<-hdb]at D7' D7 hh7
 have D71:=D7.1
 have D7'1:=D7'.1
 have T7:=T6.sZ s7
 have P7:=P6.sZ s7
 have B7:=B6.sZ s7
 have C7:=C6.sZ s7
 have st7:=st6.tZ s7
 have T71:=T7.1
 have P71:=P7.1
 have B71:=B7.1
 have iq7:=iq6.mono s7.ge
 by_cases hc2:c.1=2
 ·simp(disch:=first|omega|simp only[zz];try omega;done) only[↓reduceIte,go_sem,e3,e32,<-hh3,<-hqb,<-hh4,<-htb,P4.2.1,P4.2.2.1,<-hh5,T5.2.1,T5.2.2.1,<-hh6,B6.at,B6.2.1,af (show(w:Int)<(N.length:Nat) by omega),af (show(0:Int)<=(w:Int) by omega),r0,r1,r2,r3,r4,r5,r6,r7,r8,r9,r10,<-hdb,<-hh7',D7'.2.1,D7'.2.2.1,<-hh7,D7.at,D7.2.1,T7.at,T7.2.1,af hc2]
  refine⟨k+1,?_,by omega⟩
  rw[hI]
  exact⟨u7,w,by simp [kF,e3],by simp [kF,e5],by simp [kF],by simp [kF,e30'],by simp [kF,e31],by simp [kF],hlt,λq=>by omega,λj hj=>by rw[show j=k by omega];exact hw,st7,B7,by rw[hRL];exact C7⟩
 ·simp(disch:=first|omega|simp only[zz];try omega;done) only[↓reduceIte,go_sem,e3,<-hh3,<-hqb,<-hh4,<-htb,P4.2.1,P4.2.2.1,<-hh5,T5.2.1,T5.2.2.1,<-hh6,B6.at,B6.2.1,af (show(w:Int)<(N.length:Nat) by omega),af (show(0:Int)<=(w:Int) by omega),r0,r1,r2,r3,r4,r5,r6,r7,r8,r9,r10,<-hdb,<-hh7',D7'.2.1,D7'.2.2.1,<-hh7,D7.at,D7.2.1,T7.at,T7.2.1,B7.at,B7.2.1,au hc2]
  refine kD (.inr (.inl ⟨rfl,u7,_,_,ve,A,N,W,E,w,up,_,_,c,rfl,iA.mono st7.ge,iN.mono st7.ge,oke,P,nd,hc2,λu8 h8 v s8 iv=>⟨(λp q=>nomatch q),?_⟩⟩))
  obtain⟨ja,jc,rfl,-,-⟩:=iv.sl
  obtain⟨h9',h9,u9,hh9',hh9,F9',F9,s9,hz9⟩:=kZ u8 h8 [.int .i64 0,.slice none 0 0] [.int .i64 c.2.1.1,.slice ja c.2.1.2.length jc] 59 rfl
  obtain⟨fb,hfb⟩:=kJ h8.size
  rw[<-hfb]at F9' F9 hh9
  have F91:=F9.1
  have F9'1:=F9'.1
  have P9:=(P7.sZ s8).sZ s9
  have B9:=(B7.sZ s8).sZ s9
  have C9:=(C7.sZ s8).sZ s9
  have st9:=(st7.tZ s8).tZ s9
  have P91:=P9.1
  simp(disch:=first|omega|simp only[zz];try omega;done) only[↓reduceIte,go_sem,<-hfb,<-hh9',F9'.2.1,F9'.2.2.1,<-hh9,F9.at,F9.2.1,P9.at,P9.2.1]
  have hsh8:c.2.1.2.length<=1000000:=by
   have:=(hcnd.resolve_right λq=>hc2 q.1).2.2.1.2.1
   omega
  refine kD (.inr (.inr ⟨rfl,u9,c.2.1,c.2.1,_,_,rfl,iv.mono s9.ge,(iq7.mono s8.ge).mono s9.ge,hsh8,λx u10 h10 hx s10=>⟨(λp q=>nomatch q),?_⟩⟩))
  have hxt:x=true:=hx.2 rfl
  subst hxt
  have B10:=B9.sZ s10
  have C10:=C9.sZ s10
  have st10:=st9.tZ s10
  simp(disch:=first|omega|simp only[zz];try omega;done) only[↓reduceIte,go_sem,e32]
  refine⟨k+1,?_,by omega⟩
  rw[hI]
  exact⟨u10,w,by simp [kF,e3],by simp [kF,e5],by simp [kF],by simp [kF,e30'],by simp [kF,e31],by simp [kF],hlt,λq=>by omega,λj hj=>by rw[show j=k by omega];exact hw,st10,B10,by rw[hRL];exact C10⟩
end Go.Proofs.Z
namespace Edict
open Go.Ev Go.Proofs.Z
section
variable {P:List Nm} {cs:List sU}
theorem Yg{V:List Nm}{n:Nm}(h:V.length<=1000000):pJ (rU V n):=by
 have:=FM V n
 exact⟨by omega,by omega⟩
theorem Yh{x:sU}(h:cs.length<=1000000):pJ (Fs cs x):=by
 unfold Fs
 split
 ·rename_i hx
  have:(cs.findIdx λy=>decide (y=x))<cs.length:=dD ⟨x,hx,by simp⟩
  exact⟨by omega,by omega⟩
 ·exact⟨by omega,by omega⟩
theorem KI{V:List Nm}{t:ll}(h:V.length<=1000000)(h2:cs.length<=1000000):pJ (oq V cs t).2:=by
 unfold oq
 split
 ·exact Yg h
 ·exact Yh h2
theorem af1{c:kX}(hf:mH c)(hb:uz c)(hc:Ri P cs c)(hcl:cs.length<=1000000):CB (ny P cs (qP c)):=by
 obtain⟨a,b,d⟩:=acd (P:=P) (cs:=cs) hf hb (λl hl=>(hc.2 l hl).1) (λl hl=>(hc.2 l hl).2)
 refine⟨⟨_,a⟩,b,d,λt ht=> ?_⟩
 obtain⟨l,-,rfl⟩:=bq.1 (show t∈(qP c).2.2.1.map (Oe cs (qP c).2.2.2.2.1)from ht)
 have hv:(qP c).2.2.2.2.1.length<=1000000:=aY (FU hb) (by decide)
 exact⟨KI hv hcl,KI hv hcl⟩
theorem MR: ∀{m:List lV} {w:Nat} {v:List Nm},(∀l∈m,l.2.1.2.1.length<=8)-> ∀a∈(lU w v m).2,a.2.1.length<=8
 |[],w,v,_,a,ha=>by cases ha
 |l::m,w,v,h,a,ha=>by
  unfold lU at ha
  split at ha
  ·rcases bn.1 ha with rfl|ha
   ·simp only[xz];exact h l (by simp)
   ·exact MR (λx q=>h x (by simp [q])) a ha
  ·exact MR (λx q=>h x (by simp [q])) a ha
theorem abf{c:kX}(hf:mH c)(hb:uz c):FN (qP c):=by
 have h16:=hf.2.1
 refine⟨hf.1,aY Af h16,aY (dR _ _) h16,?_,aY (FU hb) (by decide),MR λl hl=>(hf.2.2 l hl).1,λa ha=> ?_⟩
 ·simp only[qP,aQ]
  exact aY (dR _ _) h16
 ·obtain⟨l,hl,rfl⟩:=bq.1 (show a∈(c.2.filter λl=>decide (l.1=2)).map λl=>l.2.1 from ha)
  exact(hf.2.2 l (eB.1 hl).1).1
theorem abg{k:Xe}(h:FN k):xV (ny P cs k):=by
 obtain⟨h1,h2,h3,h4,h5,h6,h7⟩:=h
 refine⟨?_,?_,?_,?_,?_,λp hp=> ?_,λp hp=> ?_⟩
 ·simp only[ny,oP,aQ];omega
 ·simp only[ny,aQ];omega
 ·simp only[ny,aQ];omega
 ·simp only[ny,aQ];omega
 ·simp only[ny,wD,aQ];omega
 ·obtain⟨a,ha,rfl⟩:=bq.1 (show p∈k.2.1.map (oP P cs k.2.2.2.2.1)from hp)
  have:=h6 a ha
  simp only[oP,aQ];omega
 ·obtain⟨a,ha,rfl⟩:=bq.1 (show p∈k.2.2.2.1.map (oP P cs k.2.2.2.2.1)from hp)
  have:=h7 a ha
  simp only[oP,aQ];omega
theorem Qt{V:List Nm}: ∀{l:List ll} {w:Nat} {w':Int},vg w (l.map (oq V cs))=some w'->w'=(vX V w l:Nat)
 |[],w,w',h=>by cases h;rfl
 |t::l,w,w',h=>by
  rw[bF,vg]at h
  split at h
  ·cases h
  rename_i hn
  have hw:vX V w (t::l)=vX V (zn V w t) l:=rfl
  rw[hw]
  have hnum:=FM V t.2.2.1
  have e:(if(oq V cs t).1=true/\(oq V cs t).2=(w:Int)then(w:Int)+1 else(w:Int))=((zn V w t:Nat):Int):=by
   unfold oq zn at*
   by_cases h4:t.1=4
   ·rw[ay h4]at hn ⊢
    rw[ay h4]
    simp only[dN]at hn ⊢
    split<;>omega
   ·rw[ah h4,ah h4,ah (λq=>by simp at q)]
  rw[e]at h
  exact Qt h
theorem Ub{V:List Nm}{x:Nat}{l:List lH}{a:lH}:sI V x (l++[a])=vX V (sI V x l) a.2.1:=by unfold sI;rw[iJ];rfl
theorem Wl{A:List lY}{N:List lG}(rt:N[0]? =some mR){k:Xe}: ∀{m:Nat} {ws:List Nat} {j:Nat},m<=(kQ (ny P cs k)).length->Path A N ((kQ (ny P cs k)).take m) ws j->wd N j=(sI k.2.2.2.2.1 0 (k.2.1.take m):Nat)
 |0,ws,j,_,p=>by
  rcases p.fst with⟨rfl,-,-⟩|⟨-,cs',_,_,_,e,_⟩
  ·rw[zI rt];rfl
  ·simp at e
 |m+1,ws,j,hm,p=>by
  obtain⟨d,hd⟩: ∃d,(kQ (ny P cs k))[m]? =some d:=⟨_,aL (by omega)⟩
  have tk:(kQ (ny P cs k)).take (m+1)=(kQ (ny P cs k)).take m++[d]:=by rw[aS,hd];rfl
  rcases p.fst with⟨-,e,-⟩|⟨-,cs',ws',u,c,e,-,q,-,-,-,hc,-⟩
  ·rw[tk]at e;simp at e
  rw[tk]at e
  obtain⟨e1,e2⟩:=gD e rfl
  simp only[aG,aP]at e2
  subst e2
  rw[<-e1]at q
  have ih:=Wl rt (m:=m) (by omega) q
  rw[ih]at hc
  have hpl:(ny P cs k).2.1.length=k.2.1.length:=by simp [ny]
  by_cases hmp:m<k.2.1.length
  ·obtain⟨a,ha⟩: ∃a,k.2.1[m]? =some a:=⟨_,aL hmp⟩
   have hp:(ny P cs k).2.1[m]? =some (oP P cs k.2.2.2.2.1 a):=by
    show(k.2.1.map (oP P cs k.2.2.2.2.1))[m]? =_
    rw[aR,ha];rfl
   have:=KO hp
   rw[hd]at this
   cases this
   have ta:k.2.1.take (m+1)=k.2.1.take m++[a]:=by rw[aS,ha];rfl
   rw[ta,Ub]
   rcases hc with hc|hc
   ·exact Qt hc.2.2.2
   ·have:=hc.1;simp at this
  ·have hm1:d.1≠1:=by
    have:=aI hd
    unfold kQ at hd
    rw[bX (by simp [hpl];omega)]at hd
    rcases bG.1 (aI hd)with h|h
    ·obtain⟨t,-,rfl⟩:=bq.1 h;simp
    ·obtain⟨t,-,rfl⟩:=bq.1 h;simp
   have hw:wd N j=(sI k.2.2.2.2.1 0 (k.2.1.take m):Nat):=by
    rcases hc with⟨a|a,-⟩|⟨-,-,a,-⟩
    ·exact absurd a hm1
    ·exact a.2
    ·exact a
   rw[hw,aK (by omega),aK (by omega)]
end
theorem Path.last{A:List lY}{N:List lG}{cs:List oU}{ws:List Nat}{e:Nat}(p:Path A N cs ws e){m:Nat}(h:ws.length=m+1):ws[m]? =some e:=by
 rcases p.fst with⟨-,-,rfl⟩|⟨-,cs',ws',u,c,-,rfl,-⟩
 ·simp at h
 ·have:ws'.length=m:=by simpa using h
  rw[<-this];simp
theorem Yi{A:List lY}{N:List lG}(hN:N.Nodup){cs ds:List oU}{ws vs:List Nat}{e f:Nat}(p:Path A N cs ws e)(q:Path A N ds vs f){k:Nat}(hk:k+1<=ds.length):
  (k+1<=cs.length/\k+1<=ds.length/\cs.take (k+1)=ds.take (k+1))↔(k+1<=ws.length/\ws[k]? =vs[k]?):=by
 have lp:=p.len
 have lq:=q.len
 obtain⟨y,py,hy⟩:=q.take (k+1) hk
 have hy:=hy k rfl
 constructor
 ·rintro ⟨h1,-,h3⟩
  obtain⟨x,px,hx⟩:=p.take (k+1) h1
  have hx:=hx k rfl
  rw[h3]at px
  rw[hx,hy,(px.one hN py).1]
  exact⟨by omega,rfl⟩
 ·rintro ⟨h1,h2⟩
  obtain⟨x,px,hx⟩:=p.take (k+1) (by omega)
  have hx:=hx k rfl
  rw[hx,hy]at h2
  cases h2
  exact⟨by omega,hk,(px.same py).1⟩
def Ju(R:List (List oU))(cs:List oU)(m:Nat):Nat:=((List.range m).filter λk=>pM R cs (k+1)).length
theorem KJ{R:List (List oU)}{cs:List oU}{m:Nat}:Ju R cs (m+1)=Ju R cs m+if pM R cs (m+1)=true then 1 else 0:=by
 unfold Ju
 rw[List.range_succ,fe,aN]
 simp only[eG,iU]
 split<;>simp
theorem adM(R:List (List oU))(cs:List oU)(m:Nat):Ju R cs m<=m:=by
 unfold Ju
 refine aY (dR _ _) ?_
 rw[iI];exact aH _
theorem Qu{R:List (List oU)}{r cs:List oU}{k:Nat}:pM (R++[r]) cs k=(pM R cs k && !(decide (k<=r.length) && decide (r.take k=cs.take k))):=by unfold pM;rw[fo];simp
end Edict
namespace Go.Proofs.Z
open Go Go.Ev Edict
def Yf(vs:List Value)(h:H)(K:Value->H->Prop):Prop:= ∃(u:U) (s t:List UInt8),vs=[str s,str t]/\Kg u h/\EW u h/\s.length<=9223372036854775807/\t.length<=9223372036854775807/\ ∀u' h',kG S0 u h u' h'->K (.bool true) h'
def Wj:mG:=λf vs h K _=>(f=4/\KN vs h K)\/(f=5/\WO vs h K)\/(f=6/\abQ vs h K)\/(f=7/\Iu vs h K)\/(f=8/\MW vs h K)\/(f=9/\Qw vs h K)\/(f=10/\Cu vs h K)\/(f=11/\Wu vs h K)\/(f=12/\KL vs h K)\/(f=13/\EH vs h K)\/(f=14/\WL vs h K)
theorem Ua:nz Tryz.prog Wj:=mK Nk (mK UN (mK YG (mK JC (mK Ib (mK Qx (mK Fb (mK Uj (mK MS (mK Io (qd UH))))))))))
set_option maxHeartbeats 20000000 in
theorem abe{vs:List Value}{h:H}{K:Value->H->Prop}{KP:List PanicEntry->H->Prop}(hC:Yf vs h K):ma Tryz.prog 3 vs h K KP:=by
 obtain⟨u,s,t,rfl,hL,hT,hs,ht,hK⟩:=hC
 refine kP 842498738221519426669726257904056641771064299895246035782341750771 [(none,(.t 4))] Ua Tryz.func3 (by kernel_rfl) (by apply c0 rfl;repeat' first|apply cS|apply cK|apply cL|apply cX|(apply cC (by decide))|with_reducible exact cV 27 (.sts [(zq .neq (.t 21) (zv 0)),(.chk [((zb .neq (.t 21) (zv 0)),false)] (.c1 (.ldn 3) (.t 14))),(.chk [((zb .neq (.t 21) (zv 0)),false)] (.c1 (.ldn 7) (.t 19))),(.set 126 (.o1 (.ldn 7) (.t 19))),(.set 124 (.o1 (.ldn 3) (.t 14))),(.eff [((zb .neq (.t 21) (zv 0)),false)] (some 127) (.call 12) [(.t 124),(.t 20),(.t 126)] []),(.chk [((zb .neq (.t 21) (zv 0)),false)] (.c1 .not (.t 127))),(.chk [] (.c3 .pick (zb .neq (.t 21) (zv 0)) (.c (.bool true)) (.o1 .not (.t 127)))),(.chk [((.o3 .pick (zb .neq (.t 21) (zv 0)) (.c (.bool true)) (.o1 .not (.t 127))),false)] (.c1 .len (.t 20))),(.chk [((.o3 .pick (zb .neq (.t 21) (zv 0)) (.c (.bool true)) (.o1 .not (.t 127))),false)] (.c2 (.bin .gtr) (.o1 .len (.t 20)) (zv 0))),(.chk [((zb .gtr (.o1 .len (.t 20)) (zv 0)),true),((.o3 .pick (zb .neq (.t 21) (zv 0)) (.c (.bool true)) (.o1 .not (.t 127))),false)] (.c1 .len (.t 20))),(.chk [((zb .gtr (.o1 .len (.t 20)) (zv 0)),true),((.o3 .pick (zb .neq (.t 21) (zv 0)) (.c (.bool true)) (.o1 .not (.t 127))),false)] (.c2 (.bin .sub) (.o1 .len (.t 20)) (zv 1))),(.chk [((zb .gtr (.o1 .len (.t 20)) (zv 0)),true),((.o3 .pick (zb .neq (.t 21) (zv 0)) (.c (.bool true)) (.o1 .not (.t 127))),false)] (.c2 (.idxA 1) (.t 20) (zb .sub (.o1 .len (.t 20)) (zv 1)))),(.chk [((zb .gtr (.o1 .len (.t 20)) (zv 0)),true),((.o3 .pick (zb .neq (.t 21) (zv 0)) (.c (.bool true)) (.o1 .not (.t 127))),false)] (.c1 .ld1 (zi 1 (.t 20) (zb .sub (.o1 .len (.t 20)) (zv 1))))),(.chk [((zb .gtr (.o1 .len (.t 20)) (zv 0)),true),((.o3 .pick (zb .neq (.t 21) (zv 0)) (.c (.bool true)) (.o1 .not (.t 127))),false)] (.c1 (.fld 2) (.t 14))),(.chk [((zb .gtr (.o1 .len (.t 20)) (zv 0)),true),((.o3 .pick (zb .neq (.t 21) (zv 0)) (.c (.bool true)) (.o1 .not (.t 127))),false)] (.c1 .ld1 (zf 2 (.t 14)))),(.chk [((zb .gtr (.o1 .len (.t 20)) (zv 0)),true),((.o3 .pick (zb .neq (.t 21) (zv 0)) (.c (.bool true)) (.o1 .not (.t 127))),false)] (.c2 (.idxA 1) (zl (zf 2 (.t 14))) (.t 18))),(.chk [((zb .gtr (.o1 .len (.t 20)) (zv 0)),true),((.o3 .pick (zb .neq (.t 21) (zv 0)) (.c (.bool true)) (.o1 .not (.t 127))),false)] (.c1 .ld1 (zi 1 (zl (zf 2 (.t 14))) (.t 18)))),(.chk [((zb .gtr (.o1 .len (.t 20)) (zv 0)),true),((.o3 .pick (zb .neq (.t 21) (zv 0)) (.c (.bool true)) (.o1 .not (.t 127))),false)] (.c2 (.bin .neq) (zl (zi 1 (.t 20) (zb .sub (.o1 .len (.t 20)) (zv 1)))) (zl (zi 1 (zl (zf 2 (.t 14))) (.t 18))))),(.chk [((.o3 .pick (zb .neq (.t 21) (zv 0)) (.c (.bool true)) (.o1 .not (.t 127))),false)] (.c3 .pick (zb .gtr (.o1 .len (.t 20)) (zv 0)) (zb .neq (zl (zi 1 (.t 20) (zb .sub (.o1 .len (.t 20)) (zv 1)))) (zl (zi 1 (zl (zf 2 (.t 14))) (.t 18)))) (.c (.bool false)))),(.chk [] (.c3 .pick (.o3 .pick (zb .neq (.t 21) (zv 0)) (.c (.bool true)) (.o1 .not (.t 127))) (.c (.bool true)) (.o3 .pick (zb .gtr (.o1 .len (.t 20)) (zv 0)) (zb .neq (zl (zi 1 (.t 20) (zb .sub (.o1 .len (.t 20)) (zv 1)))) (zl (zi 1 (zl (zf 2 (.t 14))) (.t 18)))) (.c (.bool false))))),(.set 148 (.o3 .pick (.o3 .pick (zb .neq (.t 21) (zv 0)) (.c (.bool true)) (.o1 .not (.t 127))) (.c (.bool true)) (.o3 .pick (zb .gtr (.o1 .len (.t 20)) (zv 0)) (zb .neq (zl (zi 1 (.t 20) (zb .sub (.o1 .len (.t 20)) (zv 1)))) (zl (zi 1 (zl (zf 2 (.t 14))) (.t 18)))) (.c (.bool false)))))]) (by kernel_rfl)|with_reducible exact cV 37 (.sts [(zx 1 (.t 17) (.t 24)),(zh (zi 1 (.t 17) (.t 24))),(zk .len (zl (zi 1 (.t 17) (.t 24)))),(zq .leq (.t 22) (.o1 .len (zl (zi 1 (.t 17) (.t 24))))),(.chk [((zb .leq (.t 22) (.o1 .len (zl (zi 1 (.t 17) (.t 24))))),true)] (.c2 (.idxA 1) (.t 17) (.t 24))),(.chk [((zb .leq (.t 22) (.o1 .len (zl (zi 1 (.t 17) (.t 24))))),true)] (.c1 .ld1 (zi 1 (.t 17) (.t 24)))),(.chk [((zb .leq (.t 22) (.o1 .len (zl (zi 1 (.t 17) (.t 24))))),true)] (.c2 (.bin .sub) (.t 22) (zv 1))),(.chk [((zb .leq (.t 22) (.o1 .len (zl (zi 1 (.t 17) (.t 24))))),true)] (.c2 (.idxA 1) (zl (zi 1 (.t 17) (.t 24))) (zb .sub (.t 22) (zv 1)))),(.chk [((zb .leq (.t 22) (.o1 .len (zl (zi 1 (.t 17) (.t 24))))),true)] (.c1 .ld1 (zi 1 (zl (zi 1 (.t 17) (.t 24))) (zb .sub (.t 22) (zv 1))))),(.chk [((zb .leq (.t 22) (.o1 .len (zl (zi 1 (.t 17) (.t 24))))),true)] (.c2 (.bin .sub) (.t 22) (zv 1))),(.chk [((zb .leq (.t 22) (.o1 .len (zl (zi 1 (.t 17) (.t 24))))),true)] (.c2 (.idxA 1) (.t 20) (zb .sub (.t 22) (zv 1)))),(.chk [((zb .leq (.t 22) (.o1 .len (zl (zi 1 (.t 17) (.t 24))))),true)] (.c1 .ld1 (zi 1 (.t 20) (zb .sub (.t 22) (zv 1))))),(.chk [((zb .leq (.t 22) (.o1 .len (zl (zi 1 (.t 17) (.t 24))))),true)] (.c2 (.bin .eql) (zl (zi 1 (zl (zi 1 (.t 17) (.t 24))) (zb .sub (.t 22) (zv 1)))) (zl (zi 1 (.t 20) (zb .sub (.t 22) (zv 1)))))),(.chk [] (.c3 .pick (zb .leq (.t 22) (.o1 .len (zl (zi 1 (.t 17) (.t 24))))) (zb .eql (zl (zi 1 (zl (zi 1 (.t 17) (.t 24))) (zb .sub (.t 22) (zv 1)))) (zl (zi 1 (.t 20) (zb .sub (.t 22) (zv 1))))) (.c (.bool false)))),(.chk [] (.c2 (.eqb true) (.t 25) (.o3 .pick (zb .leq (.t 22) (.o1 .len (zl (zi 1 (.t 17) (.t 24))))) (zb .eql (zl (zi 1 (zl (zi 1 (.t 17) (.t 24))) (zb .sub (.t 22) (zv 1)))) (zl (zi 1 (.t 20) (zb .sub (.t 22) (zv 1))))) (.c (.bool false))))),(.set 191 (.o2 (.eqb true) (.t 25) (.o3 .pick (zb .leq (.t 22) (.o1 .len (zl (zi 1 (.t 17) (.t 24))))) (zb .eql (zl (zi 1 (zl (zi 1 (.t 17) (.t 24))) (zb .sub (.t 22) (zv 1)))) (zl (zi 1 (.t 20) (zb .sub (.t 22) (zv 1))))) (.c (.bool false)))))]) (by kernel_rfl)|with_reducible exact cV 43 (.sts [(zg 1 (.t 14)),(zh (zf 1 (.t 14))),(zq .sub (.t 22) (zv 1)),(zx 1 (.t 20) (zb .sub (.t 22) (zv 1))),(zh (zi 1 (.t 20) (zb .sub (.t 22) (zv 1)))),(zx 11 (zl (zf 1 (.t 14))) (zl (zi 1 (.t 20) (zb .sub (.t 22) (zv 1))))),(zg 10 (zi 11 (zl (zf 1 (.t 14))) (zl (zi 1 (.t 20) (zb .sub (.t 22) (zv 1)))))),(zh (zf 10 (zi 11 (zl (zf 1 (.t 14))) (zl (zi 1 (.t 20) (zb .sub (.t 22) (zv 1))))))),(zg 0 (.t 7)),(zh (zf 0 (.t 7))),(zx 8 (zl (zf 0 (.t 7))) (.t 18)),(.set 214 (zi 8 (zl (zf 0 (.t 7))) (.t 18))),(.set 210 (zl (zf 10 (zi 11 (zl (zf 1 (.t 14))) (zl (zi 1 (.t 20) (zb .sub (.t 22) (zv 1)))))))),(.set 209 (zf 10 (zi 11 (zl (zf 1 (.t 14))) (zl (zi 1 (.t 20) (zb .sub (.t 22) (zv 1))))))),(.eff [] (some 216) (.call 14) [(.t 214),(.t 22)] [([],((.t 209),none)),([],((zi 1 (.t 20) (zb .sub (.t 22) (zv 1))),none)),([],((zf 1 (.t 14)),none))]),(zk (.part 6) (.t 216)),(zk .len (.o1 (.part 6) (.t 216))),(zq .neq (.t 210) (.o1 .len (.o1 (.part 6) (.t 216)))),(.set 219 (zb .neq (.t 210) (.o1 .len (.o1 (.part 6) (.t 216)))))]) (by kernel_rfl)|(conv=>lhs;cbv;try simp only[mF])) ?_
 simp(disch:=first|omega|simp only[zz];try omega;done) only[↓reduceIte,go_sem]
 refine kD (.inl ⟨rfl,u,.slice none 0 0,[],rfl,kM.nil _ _,by decide,(λr q=>nomatch q),λu1 h1 va vn ve A N W E p1 iA iN iE PI=>⟨(λp q=>nomatch q),?_⟩⟩)
 obtain⟨aa,ac,rfl,-,-⟩:=iA.sl
 obtain⟨na,nc,rfl,-,-⟩:=iN.sl
 obtain⟨ea,ec,rfl,-,-⟩:=iE.sl
 have hN1:N.length=1:=PI.cnt
 have hrt:=PI.inv.rt
 obtain⟨h2',h2,u2,hh2',hh2,B2',B2,s2,hz2⟩:=kZ u1 h1 [.slice none 0 0,.slice none 0 0,.slice none 0 0] [.slice aa A.length ac,.slice na N.length nc,.slice ea (lX E).length ec] 26 rfl
 obtain⟨b2,hb2⟩:=kJ h1.size
 rw[<-hb2]at B2' B2 hh2
 have B2'1:=B2'.1
 have B21:=B2.1
 have st2:=p1.tZ s2
 obtain⟨pb,po,rfl,hpb,hpu,hpz,hpr⟩:=(iN.mono s2.ge).row 0 mR hrt
 rw[oL]at hpr
 obtain⟨_,_,hpr,-,-⟩:=hpr
 simp only[rF,qR,aG,aP,gU,dO]at hpr hpu hpz
 obtain⟨-,q1,-⟩:=hpr
 have hr1:mR.2.1= -1:=rfl
 rw[hr1]at q1
 simp(disch:=first|omega|simp only[zz];try omega;done) only[↓reduceIte,go_sem,<-hb2,<-hh2',B2'.2.1,B2'.2.2.1,<-hh2,B2.at,B2.2.1,af (show(N.length:Int)=1 by omega),af (show(0:Int)<(N.length:Nat) by omega),q1,gU,dO]
 clear hh2 hh2' B2 B2' B21 B2'1 q1 iA iN iE PI hN1 hrt
 refine kD (.inr (.inl ⟨rfl,u2,s,t,rfl,hL.mono st2.ge,hT.mono st2.ge,hs,ht,λc x o u3 h3 hc0 s3=>⟨(λp q=>nomatch q),?_⟩,λx o u3 h3 p r f pv lv cv P cs s3 hp hfine hbind W3=>⟨(λp q=>nomatch q),?_⟩⟩))
 ·obtain⟨h4,u4,hh4,zh4,p4,R4⟩:=kL u3 h3 z5 42
  obtain⟨h5,u5,hh5,zh5,p5,Q5⟩:=kL u4 h4 z3 44
  obtain⟨wb,hwb⟩:=kJ h3.size
  obtain⟨qb,hqb⟩:=kJ h4.size
  rw[<-hwb]at R4
  rw[<-hqb]at Q5
  have st3:=st2.tZ s3
  have st5:=(st3.tZ p4).tZ p5
  have hwq:wb<qb:=by rw[hqb];exact R4.1
  have hwb0:h.size<=wb:=by rw[hwb];exact st3.ge.sz
  have R5:=R4.sZ p5
  have R51:=R5.1
  obtain⟨h6,h7,hh6,hh7,Q6,R7,Q7,st7,sA,sB⟩:=IA st5 R5 Q5 hwb0 (by omega) (by omega) z5 [.int .i64 c,.int .i64 x,.int .i64 o] rfl rfl
  have Q61:=Q6.1
  have Q71:=Q7.1
  have R71:=R7.1
  have ge7:=p4.ge.trans (p5.ge.trans (sA.ge.trans sB.ge))
  simp only[z5]at hh4 R5
  simp only[z3]at hh5 Q6
  simp only[z5]at hh6 R7
  have hK:=hK u5 h7 st7
  simp(disch:=first|omega|simp only[zz];try omega;done) only[↓reduceIte,go_sem,<-hh4,<-hwb,<-hh5,<-hqb,R5.2.1,R5.2.2.1,<-hh6,Q6.2.1,Q6.2.2.1,<-hh7,Q7.at,Q7.2.1,au hc0]
  exact hK
 ·obtain⟨ra,rc,rfl,-,-⟩:=W3.ir.sl
  obtain⟨F,jF⟩:=W3.jf
  obtain⟨fa,fc,rfl,-,-⟩:=jF.sl
  obtain⟨pa,pc,rfl,-,-⟩:=W3.ip.sl
  obtain⟨Lv,jL,-⟩:=W3.il
  obtain⟨la,lc,rfl,-,-⟩:=jL.sl
  obtain⟨ca,cc,rfl,-,-⟩:=W3.ic.sl
  obtain⟨h4,u4,hh4,zh4,p4,R4⟩:=kL u3 h3 z5 42
  obtain⟨h5,u5,hh5,zh5,p5,Q5⟩:=kL u4 h4 z3 44
  obtain⟨wb,hwb⟩:=kJ h3.size
  obtain⟨qb,hqb⟩:=kJ h4.size
  rw[<-hwb]at R4
  rw[<-hqb]at Q5
  have st3:=st2.tZ s3
  have st5:=(st3.tZ p4).tZ p5
  have hwq:wb<qb:=by rw[hqb];exact R4.1
  have hwb0:h.size<=wb:=by rw[hwb];exact st3.ge.sz
  have R5:=R4.sZ p5
  have R51:=R5.1
  obtain⟨h6,h7,hh6,hh7,Q6,R7,Q7,st7,sA,sB⟩:=IA st5 R5 Q5 hwb0 (by omega) (by omega) [.slice ra (qy p).length rc,.slice fa F.length fc,.slice pa P.length pc,.slice la Lv.length lc,.slice ca cs.length cc] [.int .i64 0,.int .i64 x,.int .i64 o] rfl rfl
  have Q61:=Q6.1
  have Q71:=Q7.1
  have R71:=R7.1
  have ge7:=p4.ge.trans (p5.ge.trans (sA.ge.trans sB.ge))
  simp only[z5]at hh4 R5
  simp only[z3]at hh5 Q6
  simp(disch:=first|omega|simp only[zz];try omega;done) only[↓reduceIte,go_sem,<-hh4,<-hwb,<-hh5,<-hqb,R5.2.1,R5.2.2.1,<-hh6,Q6.2.1,Q6.2.2.1,<-hh7,Q7.at,Q7.2.1,R7.at,R7.2.1]
  obtain⟨h8,u8,hh8,zh8,p8,N8⟩:=kL u5 h7 [.slice pa P.length pc,.slice ca cs.length cc] 48
  obtain⟨nb,hnb⟩:=kJ h7.size
  rw[<-hnb]at N8
  obtain⟨Wd,hWd⟩:=kJ (α:=List Value) ([.slice ra (qy p).length rc,.slice fa F.length fc,.slice pa P.length pc,.slice la Lv.length lc,.slice ca cs.length cc])
  have R8:=R7.sZ p8
  rw[<-hWd]at R8
  have st8:=st7.tZ p8
  have ge8:=ge7.trans p8.ge
  rw[<-hh8,<-hnb]
  have hnb0:h.size<=nb:=by rw[hnb];exact st7.ge.sz
  have hwn:wb<nb:=by rw[hnb];exact R71
  have irr:=W3.ir
  have hcl:=W3.cl
  have hPl:=W3.pl
  have hcov:=W3.cov
  have hip:=W3.ip
  have hic:=W3.ic
  have hrl:(qy p).length<=512:=aY Bv hp
  obtain⟨RR,hRR⟩:=kJ (qy p)
  have hclw: ∀k∈RR,FN k/\CB (ny P cs k):=λk hk=>by
   rw[hRR]at hk
   obtain⟨c,hc,rfl⟩:=bq.1 hk
   have hcp:=(eB.1 hc).1
   exact⟨abf (hfine c hcp) (hbind c hcp),af1 (hfine c hcp) (hbind c hcp) (hcov c hcp) (by omega)⟩
  rw[<-hRR]at irr hWd hrl ⊢
  clear W3 hcov hfine hbind hh4 hh5 hh6 hh7 hh8 Q5 Q6 Q7 R4 R5 R7 st5 st3 sA sB Q61 Q71 R51 R71
  obtain⟨I,hI⟩:=kJ (α:=Nat->lm->H->Prop) λk σ h'=> ∃(u':U) (v:Value),σ 7= .pointer (some ⟨wb,0,none⟩)/\σ 10= .pointer (some ⟨nb,0,none⟩)/\σ 11=v/\σ 64= .slice ra RR.length rc/\σ 65= .int .i64 (RR.length:Nat)/\σ 66= .int .i64 k/\k<=RR.length/\kG S0 u h u' h'/\Ge u3 h3 u' h'/\kV u' h' wb Wd/\kV u' h' nb [.slice pa P.length pc,.slice ca cs.length cc]/\mr (nb+1) u' h' v ((RR.take k).map (ny P cs))
  refine kH I (λj=>RR.length - j) 0 (by rw[hI];exact⟨u8,.slice none 0 0,by simp [kF],by simp [kF],by simp [kF],by simp [kF],by simp [kF],by simp [kF],by omega,st8,ge8,R8,N8,.nil _ _ _⟩) ?_
  clear R8 N8 st8 ge8 st7 ge7
  intro k σ h' hi
  rw[hI]at hi
  obtain⟨u',v,e7,e10,e11,e64,e65,e66,hk,st,ge,Wb,Nn,ow⟩:=hi
  have Wb1:=Wb.1
  have Nn1:=Nn.1
  by_cases hlt:k<RR.length
  case pos=>
   obtain⟨y,hy⟩:=uu hlt
   have hyf:=hclw y (aI hy)
   have tk:(RR.take (k+1)).map (ny P cs)=(RR.take k).map (ny P cs)++[ny P cs y]:=by rw[aS,hy];simp
   obtain⟨pb',po',rfl,hpb',hpu',hpz',hpr'⟩:=(irr.mono ge).row k y hy
   rw[FP]at hpr'
   obtain⟨v0,v1,v2,v3,v4,hpr',i0,i1,i2,i3,i4⟩:=hpr'
   obtain⟨a0,b0,rfl,-,-⟩:=i0.sl
   obtain⟨a1,b1,rfl,-,-⟩:=i1.sl
   obtain⟨a2,b2',rfl,-,-⟩:=i2.sl
   obtain⟨a3,b3,rfl,-,-⟩:=i3.sl
   obtain⟨a4,b4,rfl,-,-⟩:=i4.sl
   simp only[UR,Zu,aG,aP]at hpr' hpu' hpz'
   obtain⟨q0,q1,q2,q3,q4,q5,q6,q7⟩:=hpr'
   have e64':σ 64= .slice (some ⟨pb',po',none⟩) RR.length rc:=e64
   obtain⟨h9',h9,u9,hh9',hh9,C9',C9,s9,hz9⟩:=kZ u' h' [str [],.slice none 0 0,.int .i64 0,.slice none 0 0,.slice none 0 0,.slice none 0 0,.slice none 0 0,.int .i64 0] [str y.1.1,.slice a0 y.1.2.1.length b0,.int .i64 y.1.2.2,.slice a1 y.2.1.length b1,.slice a2 y.2.2.1.length b2',.slice a3 y.2.2.2.1.length b3,.slice a4 y.2.2.2.2.1.length b4,.int .i64 y.2.2.2.2.2] 56 rfl
   obtain⟨cb,hcb⟩:=kJ h'.size
   rw[<-hcb]at C9' C9 hh9
   have C9'1:=C9'.1
   have C91:=C9.1
   have Nn9:=Nn.sZ s9
   have Wb9:=Wb.sZ s9
   have st9:=st.tZ s9
   obtain⟨va',vc',rfl,-,-⟩:=ow.sl
   simp(disch:=first|omega|simp only[zz];try omega;done) only[↓reduceIte,go_sem,e10,e64',e65,e66,af (show(k:Int)<(RR.length:Nat) by omega),q0,q1,q2,q3,q4,q5,q6,q7,<-hcb,<-hh9',C9'.2.1,C9'.2.2.1,<-hh9,C9.at,C9.2.1]
   have nbk:Nb u9 h9 nb P cs:=⟨⟨_,_,Nn9,hip.mono (ge.trans s9.ge),hic.mono (ge.trans s9.ge)⟩,by omega,by omega⟩
   refine kD (.inr (.inr (.inl ⟨rfl,u9,nb,P,cs,y,_,_,_,_,_,rfl,nbk,Nn9.1,i0.mono s9.ge,i1.mono s9.ge,i2.mono s9.ge,i3.mono s9.ge,i4.mono s9.ge,hyf.1,λu10 h10 w0 w1 w2 w3 w4 s10 j0 j1 j2 j3 j4=>⟨(λp q=>nomatch q),?_⟩⟩)))
   obtain⟨c0,d0,rfl,-,-⟩:=j0.sl
   obtain⟨c1,d1,rfl,-,-⟩:=j1.sl
   obtain⟨c2,d2,rfl,-,-⟩:=j2.sl
   obtain⟨c3,d3,rfl,-,-⟩:=j3.sl
   obtain⟨c4,d4,rfl,-,-⟩:=j4.sl
   obtain⟨rr,hrr⟩:=kJ (ny P cs y)
   rw[<-hrr]at j0 j1 j2 j3 j4 tk ⊢
   have hr5:rr.2.2.2.2.2=0:=by rw[hrr];rfl
   have ow10:=(ow.sZ s9).sZ s10
   simp(disch:=first|omega|simp only[zz];try omega;done) only[↓reduceIte,go_sem,e11]
   refine kK (by simp only[]) ow10 (x:=rr) (by rw[xW];exact⟨_,_,_,_,_,by rw[hr5],j0,j1,j2,j3,j4⟩) rfl rfl (by have:=(Nn9.sZ s10).1;omega) (by rw[aQ,aT];omega) λa8 n8 c8 u11 h11 o11 s11 hO11=>⟨(λp q=>nomatch q),?_⟩
   simp(disch:=first|omega|simp only[zz];try omega;done) only[↓reduceIte,go_sem,e66]
   refine⟨k+1,?_,by omega⟩
   rw[hI]
   have gg: ∀b,kN (.slice va' ((RR.take k).map (ny P cs)).length vc') b->nb+1<=b:=λb q=>ow.ge q
   exact⟨u11,.slice a8 n8 c8,by simp [kF,e7],by simp [kF,e10],by simp [kF],by simp [kF,e64'],by simp [kF,e65],by simp [kF],hlt,(st9.tZ s10).own s11 λb q=>by have:=gg b q;omega,ge.trans (s9.ge.trans (s10.ge.trans s11.ge)),(Wb9.sZ s10).step s11 λq=>by have:=gg _ q;omega,(Nn9.sZ s10).step s11 λq=>by have:=gg _ q;omega,by rw[tk];exact o11⟩
  have hkk:k=RR.length:=by omega
  subst hkk
  rw[jI]at ow
  obtain⟨RL,hRL⟩:=kJ (RR.map (ny P cs))
  rw[<-hRL]at ow
  have hRLl:RL.length=RR.length:=by rw[hRL,aQ]
  obtain⟨va',vc',rfl,-,-⟩:=ow.sl
  have iR:=ow.iZ
  simp(disch:=first|omega|simp only[zz];try omega;done) only[↓reduceIte,go_sem,e11,e65,e66,au (show¬(RR.length:Int)<(RR.length:Nat) by omega)]
  have hRow: ∀r∈RL,CB r/\xV r:=λr hr=>by
   rw[hRL]at hr
   obtain⟨k,hk,rfl⟩:=bq.1 hr
   have:=hclw k hk
   exact⟨this.2,abg this.1⟩
  refine kD (.inr (.inr (.inr (.inl ⟨rfl,u',RL,_,rfl,iR,by omega,λr hr=>(hRow r hr).2,λu9 h9 ww s9 iw=>⟨(λp q=>nomatch q),?_⟩⟩))))
  simp(disch:=first|omega|simp only[zz];try omega;done) only[↓reduceIte,go_sem,Vs]
  refine kD (.inl ⟨rfl,u9,ww,RL,rfl,iw,by omega,λr hr=>(hRow r hr).1,λu10 h10 va vn ve A N W E s10 iA iN iE PI=>⟨(λp q=>nomatch q),?_⟩⟩)
  have PL:=PI.ok (λr hr=>(hRow r hr).1) (by omega)
  have hEl:(lX E).length=RL.length:=by
   have:=PI.el
   unfold lX
   rw[aQ,this,aQ]
  have hRlen:RL.length<=512:=by omega
  obtain⟨aa,ac,rfl,-,-⟩:=iA.sl
  obtain⟨na,nc,rfl,-,-⟩:=iN.sl
  obtain⟨ea,ec,rfl,-,-⟩:=iE.sl
  obtain⟨h11',h11,u11,hh11',hh11,B11',B11,s11,hz11⟩:=kZ u10 h10 [.slice none 0 0,.slice none 0 0,.slice none 0 0] [.slice aa A.length ac,.slice na N.length nc,.slice ea (lX E).length ec] 26 rfl
  obtain⟨mb,hmb⟩:=kJ h10.size
  rw[<-hmb]at B11' B11 hh11
  have B11'1:=B11'.1
  have B111:=B11.1
  have st11:=((st.tZ s9).tZ s10).tZ s11
  have Wb11:=((Wb.sZ s9).sZ s10).sZ s11
  have ge11:=ge.trans (s9.ge.trans (s10.ge.trans s11.ge))
  have iA11:=iA.mono s11.ge
  have iN11:=iN.mono s11.ge
  have iE11:=iE.mono s11.ge
  have iR11:=iR.mono (s9.ge.trans (s10.ge.trans s11.ge))
  simp(disch:=first|omega|simp only[zz];try omega;done) only[↓reduceIte,go_sem,<-hmb,<-hh11',B11'.2.1,B11'.2.2.1,<-hh11,B11.at,B11.2.1]
  refine kD (.inr (.inr (.inr (.inr (.inl ⟨rfl,u11,_,_,_,A,N,W,E,rfl,iA11,iN11,iE11,PL,λu12 h12 s12=>⟨(λp q=>nomatch q),?_⟩⟩)))))
  have B12:=B11.sZ s12
  have Wb12:=Wb11.sZ s12
  have Wb12':=Wb12
  rw[hWd]at Wb12'
  have B121:=B12.1
  have Wb121:=Wb12.1
  have st12:=st11.tZ s12
  have ge12:=ge11.trans s12.ge
  rw[hEl]
  have okc':3+1=4:=rfl
  simp(disch:=first|omega|simp only[zz];try omega;done) only[↓reduceIte,go_sem,e7,e11,B12.at,B12.2.1,hEl,Wb12'.at,Wb12'.2.1]
  refine kD (.inr (.inr (.inr (.inr (.inr (.inl ⟨rfl,u12,cs.length,_,_,_,A,N,W,E,rfl,by omega,rfl,iN11.mono s12.ge,rfl,PL,λu13 h13 s13=> ?_⟩))))))
  have B13:=B12.sZ s13
  have Wb13:=Wb12.sZ s13
  have Wb13':=Wb12'.sZ s13
  have B131:=B13.1
  have Wb131:=Wb13.1
  have st13:=st12.tZ s13
  refine⟨by
   simp(disch:=first|omega|simp only[zz];try omega;done) only[↓reduceIte,go_sem,e7,Wb13'.2.1,Wb12'.at,Wb13'.at,B13.2.1,B12.at,B13.at],?_⟩
  simp(disch:=first|omega|simp only[zz];try omega;done) only[↓reduceIte,go_sem,Vs]
  refine kD (.inr (.inr (.inr (.inr (.inr (.inr (.inl ⟨rfl,u13,cs.length,_,_,_,A,N,W,E,rfl,by omega,rfl,iN11.mono (s12.ge.trans s13.ge),rfl,PL,λu14 h14 s14=>⟨(λp q=>nomatch q),?_⟩⟩)))))))
  have B14:=B13.sZ s14
  have Wb14:=Wb13.sZ s14
  have B141:=B14.1
  have st14:=st13.tZ s14
  have ge14:=ge12.trans (s13.ge.trans s14.ge)
  simp(disch:=first|omega|simp only[zz];try omega;done) only[↓reduceIte,go_sem,e11]
  have e7':=e7
  have e11':=e11
  have iR14:=iR11.mono (s12.ge.trans (s13.ge.trans s14.ge))
  have iA14:=iA11.mono (s12.ge.trans (s13.ge.trans s14.ge))
  have iN14:=iN11.mono (s12.ge.trans (s13.ge.trans s14.ge))
  have iE14:=iE11.mono (s12.ge.trans (s13.ge.trans s14.ge))
  have hwm:wb<mb:=by rw[hmb];exact((Wb.sZ s9).sZ s10).1
  have hmb0:h.size<=mb:=by rw[hmb];exact((st.tZ s9).tZ s10).ge.sz
  have hNl:=PL.nl
  have hAl:=PL.al
  have hcnt:N.length=1+wG [] (RL.map kQ):=by
   have:=PI.cnt
   rw[show JM (RL.map kQ) []=0 from rfl]at this
   omega
  have hdone: ∀(j:Nat) (r:qW),RL[j]? =some r-> ∃ws e,W[j]? =some ws/\E[j]? =some e/\Path A N (kQ r) ws e:=λj r hr=>PI.done j (kQ r) (by rw[aR,hr];rfl)
  have hWl:W.length=RL.length:=by have:=PI.wl;rw[aQ]at this;exact this
  clear hh11 hh11' B11 B11' B12 B13 Wb11 Wb12 Wb13 Wb13' Wb12' st11 st12 st13 ge11 ge12 iA iN iE iA11 iN11 iE11 iR11 e7 e10 e11 e64 e65 e66 ow iR Wb Nn st ge hI I B11'1 B111 B121 Wb121 B131 Wb131 Wb1 Nn1 hk hlt s9 s10 s11 s12 s13 s14 iw
  obtain⟨I,hI⟩:=kJ (α:=Nat->lm->H->Prop) λi σ h'=> ∃(u':U) (wv:Value),σ 7= .pointer (some ⟨wb,0,none⟩)/\σ 11= .slice va' RL.length vc'/\σ 14= .pointer (some ⟨mb,0,none⟩)/\σ 16= .int .i64 ((1+wG [] ((RL.take i).map kQ):Nat):Int)/\σ 17=wv/\σ 108= .slice va' RL.length vc'/\σ 109= .int .i64 (RL.length:Nat)/\σ 110= .int .i64 i/\i<=RL.length/\kG S0 u h u' h'/\Ge u3 h3 u' h'/\Ge u14 h14 u' h'/\kV u' h' wb Wd/\kV u' h' mb [.slice aa A.length ac,.slice na N.length nc,.slice ea RL.length ec]/\mr (mb+1) u' h' wv ((W.take i).map lX)
  rw[hEl]at B14
  refine kH I (λj=>RL.length - j) 0 (by rw[hI];exact⟨u14,.slice none 0 0,by simp [kF,e7'],by simp [kF,e11'],by simp [kF],by simp [kF,wG],by simp [kF],by simp [kF],by simp [kF],by simp [kF],by omega,st14,ge14,.refl _ _,Wb14,B14,.nil _ _ _⟩) ?_
  clear Wb14 B14 st14 ge14 B141
  intro i σ h' hi
  rw[hI]at hi
  obtain⟨u',wv,e7,e11,e14,e16,e17,e108,e109,e110,hk,st,ge3,ge,Wb,B,ow⟩:=hi
  have Wb1:=Wb.1
  have B1:=B.1
  obtain⟨wva,wvc,rfl,-,-⟩:=ow.sl
  by_cases hlt:i<RL.length
  case neg=>
   rw[aK (by omega),<-hcnt]at e16
   have hK:=hK u' h' st
   simp(disch:=first|omega|simp only[zz];try omega;done) only[↓reduceIte,go_sem,e14,e16,e109,e110,au (show¬(i:Int)<(RL.length:Nat) by omega),B.at,B.2.1]
   exact hK
  obtain⟨r,hr⟩:=uu hlt
  obtain⟨ws,e,hw,he,pth⟩:=hdone i r hr
  obtain⟨hrow,hrf⟩:=hRow r (aI hr)
  have hc16:=hrow.2.1
  have hlen:=pth.len
  have hwsl:ws.length<=16:=by omega
  have hil:(lX ws).length=ws.length:=by unfold lX;simp
  obtain⟨xb,xo,rfl,hxb,hxu,hxz,hxr⟩:=(iR14.mono ge).row i r hr
  rw[xW]at hxr
  obtain⟨v0,v1,v2,v3,v4,hxr,i0,i1,i2,i3,i4⟩:=hxr
  obtain⟨a0,d0,rfl,-,-⟩:=i0.sl
  obtain⟨a1,d1,rfl,-,-⟩:=i1.sl
  obtain⟨a2,d2,rfl,-,-⟩:=i2.sl
  obtain⟨a3,d3,rfl,-,-⟩:=i3.sl
  obtain⟨a4,d4,rfl,-,-⟩:=i4.sl
  have rv:Zn u' h' r _ _ _ _ _:=⟨i0,i1,i2,i3,i4⟩
  simp only[Iy,JP,aG,aP]at hxr hxu hxz
  obtain⟨q0,q1,q2,q3,q4,q5,q6⟩:=hxr
  have e108':σ 108= .slice (some ⟨xb,xo,none⟩) RL.length vc':=e108
  have e11':σ 11= .slice (some ⟨xb,xo,none⟩) RL.length vc':=e11
  obtain⟨h2',h2,u2,hh2',hh2,L2',L2,s2,hz2⟩:=kZ u' h' [.int .i64 0,.slice none 0 0,.slice none 0 0,.slice none 0 0,.slice none 0 0,.slice none 0 0,.int .i64 0] (Ff r (.slice a0 r.1.2.length d0) (.slice a1 r.2.1.length d1) (.slice a2 r.2.2.1.length d2) (.slice a3 r.2.2.2.1.length d3) (.slice a4 r.2.2.2.2.1.length d4)) 63 rfl
  obtain⟨lb,hlb⟩:=kJ h'.size
  rw[<-hlb]at L2' L2 hh2
  obtain⟨Rl,hRl⟩:=kJ (α:=List Value) (Ff r (.slice a0 r.1.2.length d0) (.slice a1 r.2.1.length d1) (.slice a2 r.2.2.1.length d2) (.slice a3 r.2.2.2.1.length d3) (.slice a4 r.2.2.2.2.1.length d4))
  simp only[Ff]at hh2 L2 hRl
  have L2'1:=L2'.1
  have L21:=L2.1
  have B2:=B.sZ s2
  have Wb2:=Wb.sZ s2
  have B21:=B2.1
  have st2:=st.tZ s2
  have g2:=ge.trans s2.ge
  have hei:(lX E)[i]? =some (e:Int):=by unfold lX;rw[aR,he];rfl
  simp(disch:=first|omega|simp only[zz];try omega;done) only[↓reduceIte,go_sem,e14,e108',e109,e110,af (show(i:Int)<(RL.length:Nat) by omega),q0,q1,q2,q3,q4,q5,q6,<-hlb,<-hh2',L2'.2.1,L2'.2.2.1,<-hh2,B2.at,B2.2.1]
  refine kD (.inr (.inr (.inr (.inr (.inr (.inr (.inr (.inl ⟨rfl,u2,.slice aa A.length ac,.slice na N.length nc,.slice ea RL.length ec,A,N,W,E,i,ws,rfl,iA14.mono g2,iN14.mono g2,by have:=iE14.mono g2;rw[hEl]at this;exact this,PL,hw,λu3 h3 wy s3 iw=>⟨(λp q=>nomatch q),?_⟩⟩))))))))
  obtain⟨ya,yc,rfl,-,-⟩:=iw.sl
  have B3:=B2.sZ s3
  have L3:=L2.sZ s3
  have Wb3:=Wb2.sZ s3
  have B31:=B3.1
  have L31:=L3.1
  have st3:=st2.tZ s3
  have g3:=g2.trans s3.ge
  rw[hil]
  simp(disch:=first|omega|simp only[zz];try omega;done) only[↓reduceIte,go_sem,e14,B3.at,B3.2.1,L3.at,L3.2.1]
  refine kD (.inr (.inr (.inr (.inr (.inr (.inr (.inr (.inr (.inl ⟨rfl,u3,.slice aa A.length ac,.slice na N.length nc,.slice ea RL.length ec,_,_,_,_,_,_,A,N,W,E,r,ws,e,rfl,iA14.mono g3,iN14.mono g3,rfl,PL,by rw[hil]at iw;exact iw,rv.mono (s2.ge.trans s3.ge),pth,hc16,λu4 h4 s4=>⟨(λp q=>nomatch q),?_⟩⟩)))))))))
  have B4:=B3.sZ s4
  have L4:=L3.sZ s4
  have Wb4:=Wb3.sZ s4
  have B41:=B4.1
  have L41:=L4.1
  have st4:=st3.tZ s4
  have g4:=g3.trans s4.ge
  have iw4:=iw.mono s4.ge
  rw[hil]at iw4
  have ow4:=((ow.sZ s2).sZ s3).sZ s4
  obtain⟨pv',hpv⟩:=kJ ((RL.take i).map kQ)
  have hprl:pv'.length=i:=by rw[hpv,aQ,aT];omega
  obtain⟨cr,hcr⟩:=kJ (kQ r)
  rw[<-hcr]at pth hc16 hlen
  have hwvl:((W.take i).map lX).length=i:=by rw[aQ,aT];omega
  have hcntb:wG [] pv'<=16*512:=by
   have h1:=Np (R:=pv') (P:=[]) (λq hq=>by
    rw[hpv]at hq
    obtain⟨y,hy,rfl⟩:=bq.1 hq
    exact(hRow y (ed hy)).1.2.1)
   omega
  obtain⟨kk,hkk⟩: ∃kk,RR[i]? =some kk:=⟨RR[i]'(by omega),by rw[aL]⟩
  have hrk:r=ny P cs kk:=by
   have:RL[i]? =some (ny P cs kk):=by rw[hRL,aR,hkk];rfl
   rw[hr]at this;exact bu this
  have hkf:=(hclw kk (aI hkk)).1
  let keep:Nat->Prop:=λx=>x=7\/x=11\/x=14\/x=17\/x=18\/x=19\/x=20\/x=108\/x=109\/x=110
  have L3loop: ∀(σ2:lm) (Q:qm),σ2 7= .pointer (some ⟨wb,0,none⟩)->σ2 11= .slice (some ⟨xb,xo,none⟩) RL.length vc'->σ2 14= .pointer (some ⟨mb,0,none⟩)->σ2 16= .int .i64 ((1+wG [] pv':Nat):Int)->σ2 17= .slice wva i wvc->σ2 18= .int .i64 i->σ2 19= .pointer (some ⟨lb,0,none⟩)->σ2 20= .slice ya ws.length yc->σ2 22= .int .i64 1->
    (∀σ3 u5 h5,(∀x,keep x->σ3 x=σ2 x)->σ3 16= .int .i64 ((1+wG [] pv'+Ju pv' cr ws.length:Nat):Int)->kG S0 u4 h4 u5 h5->Q (.exit 4) σ3 h5)->wpS Wj (.loop acn) Q σ2 h4:=by
   intro σ2 Q f7 f11 f14 f16 f17 f18 f19 f20 f22 hQ
   obtain⟨J,hJ⟩:=kJ (α:=Nat->lm->H->Prop) λm τ h''=> ∃u'',(∀x,keep x->τ x=σ2 x)/\τ 16= .int .i64 ((1+wG [] pv'+Ju pv' cr m:Nat):Int)/\τ 22= .int .i64 ((m+1:Nat):Int)/\m<=ws.length/\kG S0 u4 h4 u'' h''
   refine kH J (λm=>ws.length - m) 0 (by rw[hJ];exact⟨u4,λx _=>rfl,by rw[f16];rfl,by rw[f22];rfl,by omega,.refl _ _ _⟩) ?_
   intro m τ h5 hj
   rw[hJ]at hj
   obtain⟨u5,gs,g16,g22,hm,s5⟩:=hj
   have g7:=(gs 7 (by simp [keep])).trans f7
   have g11:=(gs 11 (by simp [keep])).trans f11
   have g14:=(gs 14 (by simp [keep])).trans f14
   have g17:=(gs 17 (by simp [keep])).trans f17
   have g18:=(gs 18 (by simp [keep])).trans f18
   have g19:=(gs 19 (by simp [keep])).trans f19
   have g20:=(gs 20 (by simp [keep])).trans f20
   have hnm:=adM pv' cr m
   by_cases hlt2:m<ws.length
   case neg=>
    have hme:m=ws.length:=by omega
    rw[hme]at g16
    simp(disch:=first|omega|simp only[zz];try omega;done) only[↓reduceIte,go_sem,acn,g20,g22,au (show¬((m+1:Nat):Int)<=(ws.length:Nat) by omega)]
    exact hQ _ u5 h5 (λx hx=>by rw[<-gs x hx];rcases hx with rfl|rfl|rfl|rfl|rfl|rfl|rfl|rfl|rfl|rfl<;>simp [kF]) (by simp [kF,g16]) s5
   simp(disch:=first|omega|simp only[zz];try omega;done) only[↓reduceIte,go_sem,acn,g17,g20,g22,af (show((m+1:Nat):Int)<=(ws.length:Nat) by omega)]
   obtain⟨x,hx⟩:=uu hlt2
   have hxi:(lX ws)[m]? =some (x:Int):=by unfold lX;rw[aR,hx];rfl
   obtain⟨yb,yo,ye,hyb,hyu,hyz,hyr⟩:=iw4.row m _ hxi
   cases ye
   rw[lD]at hyr
   simp only[nM,oV,aG,aP,aZ]at hyr hyu hyz
   have iwv:kM u4 h4 (.slice wva i wvc) ((W.take i).map lX):=by
    have:=ow4.iZ
    rw[hwvl]at this
    exact this
   obtain⟨J4,hJ4⟩:=kJ (α:=Nat->lm->H->Prop) λj τ' h''=> ∃u'',(∀x,keep x->τ' x=σ2 x)/\τ' 16= .int .i64 ((1+wG [] pv'+Ju pv' cr m:Nat):Int)/\τ' 22= .int .i64 ((m+1:Nat):Int)/\τ' 23= .bool (pM (pv'.take j) cr (m+1))/\τ' 156= .int .i64 i/\τ' 157= .int .i64 j/\j<=i/\kG S0 u4 h4 u'' h''
   refine kH J4 (λj=>i - j) 0 (by rw[hJ4];exact⟨u5,λx hx=>by rw[<-gs x hx];rcases hx with rfl|rfl|rfl|rfl|rfl|rfl|rfl|rfl|rfl|rfl<;>simp [kF],by simp [kF,g16],by simp [kF,g22],by simp [kF,pM],by simp [kF],by simp [kF],by omega,s5⟩) ?_
   clear g16 g22 gs g7 g11 g14 g17 g18 g19 g20 s5
   intro j τ' h6 hj
   rw[hJ4]at hj
   obtain⟨u6,gs,g16,g22,g23,g156,g157,hji,s6⟩:=hj
   have g7:=(gs 7 (by simp [keep])).trans f7
   have g11:=(gs 11 (by simp [keep])).trans f11
   have g14:=(gs 14 (by simp [keep])).trans f14
   have g17:=(gs 17 (by simp [keep])).trans f17
   have g18:=(gs 18 (by simp [keep])).trans f18
   have g19:=(gs 19 (by simp [keep])).trans f19
   have g20:=(gs 20 (by simp [keep])).trans f20
   have L6:=L4.sZ s6
   have L61:=L6.1
   by_cases hlt3:j<i
   case pos=>
    obtain⟨rj,hrj⟩: ∃rj,RL[j]? =some rj:=⟨RL[j]'(by omega),by rw[aL]⟩
    obtain⟨wj,ej,hwj,-,pj⟩:=hdone j rj hrj
    obtain⟨hrowj,hrfj⟩:=hRow rj (aI hrj)
    obtain⟨zb,zo,ze,hzb,hzu,hzz,hzr⟩:=(iR14.mono (g4.trans s6.ge)).row j rj hrj
    cases ze
    rw[xW]at hzr
    obtain⟨z0,z1,z2,z3',z4,hzr,k0,k1,k2,k3,k4⟩:=hzr
    obtain⟨a0',d0',rfl,-,-⟩:=k0.sl
    obtain⟨a1',d1',rfl,-,-⟩:=k1.sl
    obtain⟨a2',d2',rfl,-,-⟩:=k2.sl
    obtain⟨a3',d3',rfl,-,-⟩:=k3.sl
    obtain⟨a4',d4',rfl,-,-⟩:=k4.sl
    simp only[Iy,JP,aG,aP]at hzr hzu hzz
    obtain⟨r0,r1,r2,r3,r4,r5,r6⟩:=hzr
    have rvj:Zn u6 h6 rj _ _ _ _ _:=⟨k0,k1,k2,k3,k4⟩
    simp(disch:=first|omega|simp only[zz];try omega;done) only[↓reduceIte,go_sem,acm,g11,g19,g22,g156,g157,af (show(j:Int)<(i:Nat) by omega),af (show(0:Int)<=(j:Int) by omega),af (show(j:Int)<(RL.length:Nat) by omega),r0,r1,r2,r3,r4,r5,r6,L6.at,L6.2.1]
    refine kD (.inr (.inr (.inr (.inr (.inr (.inr (.inr (.inr (.inr (.inl ⟨rfl,u6,rj,r,_,_,_,_,_,_,_,_,_,_,m+1,rfl,rvj,rv.mono ((s2.ge.trans (s3.ge.trans s4.ge)).trans s6.ge),hrfj,hrf,by omega,λy u7 h7 hy s7=>⟨(λp q=>nomatch q),?_⟩⟩))))))))))
    rw[<-hcr]at hy
    have hy0:=hy
    rw[Yi PL.nd pj pth (by omega)]at hy
    have hwjl:wj.length<=16:=by have:=pj.len;have:=hrowj.2.1;omega
    have hwjm:((W.take i).map lX)[j]? =some (lX wj):=by rw[aR,bV,ay hlt3,hwj];rfl
    obtain⟨tb,to,te,htb,htu,htz,htr⟩:=(iwv.mono (s6.ge.trans s7.ge)).row j _ hwjm
    cases te
    rw[qi]at htr
    obtain⟨tv,htr,it⟩:=htr
    have szl:Rep.sz (List Int)=1:=rfl
    simp only[szl,oV,aG,aP,aZ]at htr htu htz
    obtain⟨ta,tc,rfl,-,-⟩:=it.sl
    have hwjl':(lX wj).length=wj.length:=by unfold lX;simp
    rw[hwjl']at htr it
    have hyr7:hv h7 yb (yo+m)= .int .i64 (x:Int):=by rw[<-hyr];exact(s6.ge.trans s7.ge).cl yb hyb _ (by omega)
    have hyz7:yo+m+1<=hsz h7 yb:=by rw[((s6.ge.trans s7.ge).hs yb hyb).1];exact hyz
    have hY:(decide (m+1<=(kQ rj).length) && decide ((kQ rj).take (m+1)=cr.take (m+1)))=y:=by
     rw[dm,bA,bf,bf,hy0]
     exact⟨λq=>⟨q.1,by omega,q.2⟩,λq=>⟨q.1,q.2.2⟩⟩
    have hpj:pv'.take (j+1)=pv'.take j++[kQ rj]:=by
     have:pv'[j]? =some (kQ rj):=by rw[hpv,aR,bV,ay hlt3,hrj];rfl
     rw[aS,this];rfl
    obtain⟨fb,hfb⟩:=kJ (pM (pv'.take j) cr (m+1))
    have hfb2:pM (pv'.take (j+1)) cr (m+1)=(fb && !y):=by rw[hpj,Qu,hY,<-hfb]
    rw[<-hfb]at g23
    have fin: ∀τ'':lm,(∀x,keep x->τ'' x=τ' x)->τ'' 16=τ' 16->τ'' 22=τ' 22->τ'' 23= .bool (fb && !y)->τ'' 156=τ' 156->τ'' 157= .int .i64 ((j:Int)+1)-> ∃j',J4 j' τ'' h7/\i - j'<i - j:=λτ'' p1 p2 p3 p4 p5 p6=>by
     refine⟨j+1,?_,by omega⟩
     rw[hJ4]
     exact⟨u7,λx hx=>(p1 x hx).trans (gs x hx),p2.trans g16,p3.trans g22,by rw[hfb2];exact p4,p5.trans g156,by rw[p6];simp,hlt3,s6.tZ s7⟩
    have e11:((m+1:Nat):Int) - 1=(m:Int):=by omega
    have e12:(m:Int)+1 - 1=(m:Int):=by omega
    by_cases hmj:m+1<=wj.length
    case neg=>
     have hyf:y=false:=by
      cases y with
      |false=>rfl
      |true=>exact absurd (hy.1 rfl).1 hmj
     subst hyf
     cases fb
     ·simp(disch:=first|omega|simp only[zz];try omega;done) only[↓reduceIte,go_sem,aZ,g17,g20,g22,g23,g157,af (show(0:Int)<=(j:Int) by omega),af (show(j:Int)<(i:Nat) by omega),htr,au (show¬((m+1:Nat):Int)<=(wj.length:Nat) by omega)]
      exact fin _ (λx hx=>by rcases hx with rfl|rfl|rfl|rfl|rfl|rfl|rfl|rfl|rfl|rfl<;>simp [kF]) (by simp [kF]) (by simp [kF]) (by simp [kF]) (by simp [kF]) (by simp [kF])
     ·simp(disch:=first|omega|simp only[zz];try omega;done) only[↓reduceIte,go_sem,aZ,g17,g20,g22,g23,g157,af (show(0:Int)<=(j:Int) by omega),af (show(j:Int)<(i:Nat) by omega),htr,au (show¬((m+1:Nat):Int)<=(wj.length:Nat) by omega)]
      exact fin _ (λx hx=>by rcases hx with rfl|rfl|rfl|rfl|rfl|rfl|rfl|rfl|rfl|rfl<;>simp [kF]) (by simp [kF]) (by simp [kF]) (by simp [kF]) (by simp [kF]) (by simp [kF])
    obtain⟨a,ha⟩: ∃a,wj[m]? =some a:=⟨wj[m]'(by omega),aL (by omega)⟩
    have hai:(lX wj)[m]? =some (a:Int):=by unfold lX;rw[aR,ha];rfl
    obtain⟨sb,so,se,hsb,hsu,hsz,hsr⟩:=it.row m _ hai
    cases se
    rw[lD]at hsr
    simp only[nM,oV,aG,aP,aZ]at hsr hsu hsz
    have hyax:y=decide (a=x):=by
     rw[dm,bf,hy,ha,hx]
     exact⟨λq=>bu q.2,λq=>⟨hmj,by rw[q]⟩⟩
    have evs:True:=trivial
    by_cases hax:a=x
    ·rw[decide_eq_true hax]at hyax
     subst hyax
     cases fb
     all_goals
      simp(disch:=first|omega|simp only[zz];try omega;done) only[↓reduceIte,go_sem,aZ,g17,g20,g22,g23,g157,af (show(0:Int)<=(j:Int) by omega),af (show(j:Int)<(i:Nat) by omega),htr,af (show((m+1:Nat):Int)<=(wj.length:Nat) by omega),e11,af (show(0:Int)<=(m:Int) by omega),af (show(m:Int)<(wj.length:Nat) by omega),af (show(m:Int)<(ws.length:Nat) by omega),hsr,hyr7,af (show(a:Int)=(x:Int) by omega)]
      exact fin _ (λx hx=>by rcases hx with rfl|rfl|rfl|rfl|rfl|rfl|rfl|rfl|rfl|rfl<;>simp [kF]) (by simp [kF]) (by simp [kF]) (by simp [kF]) (by simp [kF]) (by simp [kF])
    ·rw[decide_eq_false hax]at hyax
     subst hyax
     cases fb
     all_goals
      simp(disch:=first|omega|simp only[zz];try omega;done) only[↓reduceIte,go_sem,aZ,g17,g20,g22,g23,g157,af (show(0:Int)<=(j:Int) by omega),af (show(j:Int)<(i:Nat) by omega),htr,af (show((m+1:Nat):Int)<=(wj.length:Nat) by omega),e11,af (show(0:Int)<=(m:Int) by omega),af (show(m:Int)<(wj.length:Nat) by omega),af (show(m:Int)<(ws.length:Nat) by omega),hsr,hyr7,au (show¬(a:Int)=(x:Int) by omega)]
      exact fin _ (λx hx=>by rcases hx with rfl|rfl|rfl|rfl|rfl|rfl|rfl|rfl|rfl|rfl<;>simp [kF]) (by simp [kF]) (by simp [kF]) (by simp [kF]) (by simp [kF]) (by simp [kF])
   have hjj:j=i:=by omega
   rw[hjj]at g157 g23
   rw[aK (by omega)]at g23
   have hpth:=pth
   obtain⟨x',px,hx'⟩:=pth.take (m+1) (by omega)
   have hx':=hx' m rfl
   rw[hx]at hx'
   cases hx'
   have hxN:=px.lt PL.n0
   rw[hcr,hrk]at px
   have hww:=Wl PL.rt (by rw[<-hrk,<-hcr];omega) px
   obtain⟨wl,hwl⟩:=kJ (sI kk.2.2.2.2.1 0 (kk.2.1.take (m+1)))
   rw[<-hwl]at hww
   have hwlb:wl<=16:=by have:=(PL.wid x hxN).2;omega
   obtain⟨xn,hxn⟩: ∃n,N[x]? =some n:=⟨N[x],by simp [hxN]⟩
   have hxw:xn.2.2.2.2.2.2=(wl:Int):=by rw[<-hww,zI hxn]
   have B6:=B4.sZ s6
   have Wb6:=Wb4.sZ s6
   have Wb6':=Wb6
   rw[hWd]at Wb6'
   have B61:=B6.1
   have Wb61:=Wb6.1
   have hyr6:hv h6 yb (yo+m)= .int .i64 (x:Int):=by rw[<-hyr];exact s6.ge.cl yb hyb _ (by omega)
   have hyz6:yo+m+1<=hsz h6 yb:=by rw[(s6.ge.hs yb hyb).1];exact hyz
   obtain⟨nb',no',ne',hnb',hnu',hnz',hnr'⟩:=(iN14.mono (g4.trans s6.ge)).row x xn hxn
   cases ne'
   rw[oL]at hnr'
   obtain⟨_,_,hnr',-,-⟩:=hnr'
   simp only[rF,qR,aG,aP]at hnr' hnu' hnz'
   obtain⟨-,-,-,-,-,-,-,-,-,-,n10⟩:=hnr'
   rw[hxw]at n10
   obtain⟨cb',co',ce',hcb',hcu',hcz',hcr'⟩:=(irr.mono (ge3.trans ((s2.ge.trans (s3.ge.trans s4.ge)).trans s6.ge))).row i kk hkk
   cases ce'
   rw[FP]at hcr'
   obtain⟨c0,c1,c2,c3,c4,hcr',kc0,kc1,kc2,kc3,kc4⟩:=hcr'
   have e11:((m+1:Nat):Int) - 1=(m:Int):=by omega
   have e12:(m:Int)+1 - 1=(m:Int):=by omega
   simp only[UR]at hcr' hcu' hcz'
   have hRw:Rw u6 h6 cb' (co'+i*8) [str kk.1.1,c0,.int .i64 kk.1.2.2,c1,c2,c3,c4,.int .i64 kk.2.2.2.2.2]:=by
    refine⟨hcb',by simp only[aM,bg];omega,by simp only[aM,bg];omega,λy v hv=> ?_⟩
    rw[<-hcr']at hv
    have hy8:y<8:=by
     have:=(aJ.1 hv).1
     simpa [sO]using this
    unfold sO at hv
    rw[aR,bT hy8]at hv
    exact bu hv
   by_cases hF:pM pv' cr (m+1)=true
   ·rw[hF]at g23
    simp(disch:=first|omega|simp only[zz];try omega;done) only[↓reduceIte,go_sem,acm,aZ,g7,g14,g16,g18,g20,g22,g23,g156,g157,au (show¬(i:Int)<(i:Nat) by omega),B6.at,B6.2.1,Wb6'.at,Wb6'.2.1,e11,af (show(0:Int)<=(m:Int) by omega),af (show(m:Int)<(ws.length:Nat) by omega),hyr6,af (show(0:Int)<=(x:Int) by omega),af (show(x:Int)<(N.length:Nat) by omega),n10,af (show(0:Int)<=(i:Int) by omega),af (show(i:Int)<(RR.length:Nat) by omega)]
    refine kD (.inr (.inr (.inr (.inr (.inr (.inr (.inr (.inr (.inr (.inr ⟨rfl,u6,cb',co'+i*8,_,_,_,_,_,_,_,_,_,_,_,_,m+1,rfl,hRw,kc1,kc2,kc3,kc4,by omega,by have:=hkf.2.2.2.2.1;omega,by have:=hkf.2.1;omega,by have:=hkf.2.2.1;omega,by have:=hkf.2.2.2.1;omega,λa ha=>by have:=hkf.2.2.2.2.2.1 a ha;omega,λu7 h7 y3 y4 y5 y6 c6 s7 ok3 ok4 ok5=> ?_⟩))))))))))
    have B7:=B6.sZ s7
    have hyr7:hv h7 yb (yo+m)= .int .i64 (x:Int):=by rw[<-hyr6];exact s7.ge.cl yb (bM hyb s6.ge.sz) _ (by have:=s6.ge.up yb hyb;omega)
    have hyz7:yo+m+1<=hsz h7 yb:=by rw[(s7.ge.hs yb (bM hyb s6.ge.sz)).1];exact hyz6
    have n107:hv h7 nb' (no'+x*11+10)= .int .i64 (wl:Int):=by rw[<-n10];exact s7.ge.cl nb' hnb' _ (by omega)
    have hnz7:no'+x*11+11<=hsz h7 nb':=by rw[(s7.ge.hs nb' hnb').1];exact hnz'
    have B71:=B7.1
    refine⟨by
     simp(disch:=first|omega|simp only[zz];try omega;done) only[↓reduceIte,go_sem,aZ,g14,g20,g22,e11,B7.2.1,B6.at,B7.at,n10,n107,hyr6,hyr7],?_⟩
    rw[<-hwl]
    simp(disch:=first|omega|simp only[zz];try omega;done) only[↓reduceIte,go_sem,g22]
    refine⟨m+1,?_,by omega⟩
    rw[hJ]
    refine⟨u7,λx hx=> ?_,?_,?_,hlt2,s6.tZ s7⟩
    ·rw[<-gs x hx];rcases hx with rfl|rfl|rfl|rfl|rfl|rfl|rfl|rfl|rfl|rfl<;>simp [kF]
    ·rw[KJ,ay hF];simp [kF];omega
    ·simp [kF]
   ·rw[gq.2 hF]at g23
    simp(disch:=first|omega|simp only[zz];try omega;done) only[↓reduceIte,go_sem,acm,aZ,g7,g14,g18,g20,g22,g23,g156,g157,au (show¬(i:Int)<(i:Nat) by omega),B6.at,B6.2.1,Wb6'.at,Wb6'.2.1,e11,af (show(0:Int)<=(m:Int) by omega),af (show(m:Int)<(ws.length:Nat) by omega),hyr6,af (show(0:Int)<=(x:Int) by omega),af (show(x:Int)<(N.length:Nat) by omega),n10,af (show(0:Int)<=(i:Int) by omega),af (show(i:Int)<(RR.length:Nat) by omega)]
    refine kD (.inr (.inr (.inr (.inr (.inr (.inr (.inr (.inr (.inr (.inr ⟨rfl,u6,cb',co'+i*8,_,_,_,_,_,_,_,_,_,_,_,_,m+1,rfl,hRw,kc1,kc2,kc3,kc4,by omega,by have:=hkf.2.2.2.2.1;omega,by have:=hkf.2.1;omega,by have:=hkf.2.2.1;omega,by have:=hkf.2.2.2.1;omega,λa ha=>by have:=hkf.2.2.2.2.2.1 a ha;omega,λu7 h7 y3 y4 y5 y6 c6 s7 ok3 ok4 ok5=> ?_⟩))))))))))
    have B7:=B6.sZ s7
    have hyr7:hv h7 yb (yo+m)= .int .i64 (x:Int):=by rw[<-hyr6];exact s7.ge.cl yb (bM hyb s6.ge.sz) _ (by have:=s6.ge.up yb hyb;omega)
    have hyz7:yo+m+1<=hsz h7 yb:=by rw[(s7.ge.hs yb (bM hyb s6.ge.sz)).1];exact hyz6
    have n107:hv h7 nb' (no'+x*11+10)= .int .i64 (wl:Int):=by rw[<-n10];exact s7.ge.cl nb' hnb' _ (by omega)
    have hnz7:no'+x*11+11<=hsz h7 nb':=by rw[(s7.ge.hs nb' hnb').1];exact hnz'
    have B71:=B7.1
    refine⟨by
     simp(disch:=first|omega|simp only[zz];try omega;done) only[↓reduceIte,go_sem,aZ,g14,g20,g22,e11,B7.2.1,B6.at,B7.at,n10,n107,hyr6,hyr7],?_⟩
    rw[<-hwl]
    simp(disch:=first|omega|simp only[zz];try omega;done) only[↓reduceIte,go_sem,g22]
    refine⟨m+1,?_,by omega⟩
    rw[hJ]
    refine⟨u7,λx hx=> ?_,?_,?_,hlt2,s6.tZ s7⟩
    ·rw[<-gs x hx];rcases hx with rfl|rfl|rfl|rfl|rfl|rfl|rfl|rfl|rfl|rfl<;>simp [kF]
    ·rw[KJ,ah hF];simp [kF,g16]
    ·simp [kF]
  have tkW:(W.take (i+1)).map lX=(W.take i).map lX++[lX ws]:=by rw[aS,hw];simp
  have hcn:wG [] ((RL.take (i+1)).map kQ)=wG [] pv'+Ju pv' cr ws.length:=by
   rw[aS,hr]
   simp only[je,eD,bF,cu]
   rw[Eh,bI,<-hpv,<-hcr,<-hlen]
   rfl
  have e17':σ 17= .slice wva i wvc:=by rw[e17,hwvl]
  have hcn2:1+wG [] ((RL.take (i+1)).map kQ)=1+wG [] pv'+Ju pv' cr ws.length:=by rw[hcn];omega
  rcases fU ws.length with hz|hz
  ·simp(disch:=first|omega|simp only[zz];try omega;done) only[↓reduceIte,go_sem,e14,au (show¬(0:Int)<(ws.length:Nat) by omega)]
   refine L3loop _ _ (by simp [kF,e7]) (by simp [kF,e11']) (by simp [kF,e14]) (by simp [kF,e16,hpv]) (by simp [kF,e17']) (by simp [kF]) (by simp [kF]) (by simp [kF]) (by simp [kF]) λσ3 u5 h5 hs3 h16 s5=> ?_
   have w7:=hs3 7 (by simp [keep])
   have w11:=hs3 11 (by simp [keep])
   have w14:=hs3 14 (by simp [keep])
   have w17:=hs3 17 (by simp [keep])
   have w20:=hs3 20 (by simp [keep])
   have w108:=hs3 108 (by simp [keep])
   have w109:=hs3 109 (by simp [keep])
   have w110:σ3 110=_:=hs3 110 (by simp [keep])
   simp [kF,e7,e11',e14,e17',e108',e109,e110]at w7 w11 w14 w17 w20 w108 w109 w110
   have ow5:=ow4.sZ s5
   rw[hwvl]at ow5
   have B5:=B4.sZ s5
   have Wb5:=Wb4.sZ s5
   simp(disch:=first|omega|simp only[zz];try omega;done) only[↓reduceIte,go_sem,w17,w20]
   refine kK (by simp only[]) ow5 (x:=lX ws) (by rw[qi];exact⟨_,rfl,iw4.mono s5.ge⟩) rfl rfl (by have:=B5.1;omega) (by rw[hwvl];omega) λa8 n8 c8 u8 h8 o8 s8 hO8=>⟨(λp q=>nomatch q),?_⟩
   have gg: ∀b,kN (.slice wva i wvc) b->mb+1<=b:=λb q=>ow5.ge q
   simp(disch:=first|omega|simp only[zz];try omega;done) only[↓reduceIte,go_sem,w110]
   refine⟨i+1,?_,by omega⟩
   rw[hI]
   exact⟨u8,.slice a8 n8 c8,by simp [kF,w7],by simp [kF,w11],by simp [kF,w14],by rw[hcn2];simp [kF,h16],by simp [kF],by simp [kF,w108],by simp [kF,w109],by simp [kF],hlt,(st4.tZ s5).own s8 λb q=>by have:=gg b q;omega,ge3.trans ((s2.ge.trans (s3.ge.trans s4.ge)).trans (s5.ge.trans s8.ge)),g4.trans (s5.ge.trans s8.ge),Wb5.step s8 λq=>by have:=gg _ q;omega,B5.step s8 λq=>by have:=gg _ q;omega,by rw[tkW];exact o8⟩
  ·obtain⟨m,hm⟩: ∃m,ws.length=m+1:=⟨ws.length - 1,by omega⟩
   have hlast:=pth.last hm
   have hxi:(lX ws)[m]? =some (e:Int):=by unfold lX;rw[aR,hlast];rfl
   obtain⟨yb,yo,ye,hyb,hyu,hyz,hyr⟩:=iw4.row m _ hxi
   rw[lD]at hyr
   simp only[nM,oV,aG,aP,aZ]at hyr hyu hyz
   obtain⟨zb,zo,ze,hzb,hzu,hzz,hzr⟩:=(iE14.mono g4).row i _ hei
   rw[lD]at hzr
   simp only[nM,oV,aG,aP,aZ]at hzr hzu hzz
   have e1:(ws.length:Int) - 1=(m:Int):=by omega
   subst ye
   subst ze
   simp(disch:=first|omega|simp only[zz];try omega;done) only[↓reduceIte,go_sem,aZ,e14,af (show(0:Int)<(ws.length:Nat) by omega),e1,af (show(0:Int)<=(m:Int) by omega),af (show(m:Int)<(ws.length:Nat) by omega),hyr,B4.at,B4.2.1,af (show(0:Int)<=(i:Int) by omega),af (show(i:Int)<(RL.length:Nat) by omega),hzr]
   refine L3loop _ _ (by simp [kF,e7]) (by simp [kF,e11']) (by simp [kF,e14]) (by simp [kF,e16,hpv]) (by simp [kF,e17']) (by simp [kF]) (by simp [kF]) (by simp [kF]) (by simp [kF]) λσ3 u5 h5 hs3 h16 s5=> ?_
   have w7:=hs3 7 (by simp [keep])
   have w11:=hs3 11 (by simp [keep])
   have w14:=hs3 14 (by simp [keep])
   have w17:=hs3 17 (by simp [keep])
   have w20:=hs3 20 (by simp [keep])
   have w108:=hs3 108 (by simp [keep])
   have w109:=hs3 109 (by simp [keep])
   have w110:σ3 110=_:=hs3 110 (by simp [keep])
   simp [kF,e7,e11',e14,e17',e108',e109,e110]at w7 w11 w14 w17 w20 w108 w109 w110
   have ow5:=ow4.sZ s5
   rw[hwvl]at ow5
   have B5:=B4.sZ s5
   have Wb5:=Wb4.sZ s5
   simp(disch:=first|omega|simp only[zz];try omega;done) only[↓reduceIte,go_sem,w17,w20]
   refine kK (by simp only[]) ow5 (x:=lX ws) (by rw[qi];exact⟨_,rfl,iw4.mono s5.ge⟩) rfl rfl (by have:=B5.1;omega) (by rw[hwvl];omega) λa8 n8 c8 u8 h8 o8 s8 hO8=>⟨(λp q=>nomatch q),?_⟩
   have gg: ∀b,kN (.slice wva i wvc) b->mb+1<=b:=λb q=>ow5.ge q
   simp(disch:=first|omega|simp only[zz];try omega;done) only[↓reduceIte,go_sem,w110]
   refine⟨i+1,?_,by omega⟩
   rw[hI]
   exact⟨u8,.slice a8 n8 c8,by simp [kF,w7],by simp [kF,w11],by simp [kF,w14],by rw[hcn2];simp [kF,h16],by simp [kF],by simp [kF,w108],by simp [kF,w109],by simp [kF],hlt,(st4.tZ s5).own s8 λb q=>by have:=gg b q;omega,ge3.trans ((s2.ge.trans (s3.ge.trans s4.ge)).trans (s5.ge.trans s8.ge)),g4.trans (s5.ge.trans s8.ge),Wb5.step s8 λq=>by have:=gg _ q;omega,B5.step s8 λq=>by have:=gg _ q;omega,by rw[tkW];exact o8⟩
end Go.Proofs.Z
