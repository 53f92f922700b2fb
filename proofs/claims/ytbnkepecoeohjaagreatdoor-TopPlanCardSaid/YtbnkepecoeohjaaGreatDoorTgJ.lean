/- A part of the proof. -/
import Derived.Test.YtbnkepecoeohjaaGreatDoorTpX
import Derived.Test.YtbnkepecoeohjaaGreatDoorTq6
set_option linter.all false
set_option maxRecDepth 100000
set_option maxHeartbeats 4000000
namespace Go.Ev
open Go Rep Edict
def lX(E:List Nat):List Int:=List.map (λx:Nat=>(x:Int)) E
structure Lp (u:U) (h:H) (u1:U) (h1:H) (k0 rb lb mb pb:Nat) (L:List Value) (ve:Value) (R0:List (List oU)) (W:List (List Nat)) (E:List Nat) (r:qW) (u':U) (h':H) (t ui:Nat) (va vn:Value) (A:List lY) (N:List lG) (c:Nat):Prop where
 kk:h.size<=k0
 st:kG S0 u h u' h'
 ge:Ge u1 h1 u' h'
 M:Mk k0 u' h' mb pb va vn ve A N (lX E) (wu N) c
 C:Cst R0 W E r t ui A N
 B:kV u' h' lb L
 Z:kV u' h' rb [.slice none 0 0,.slice none 0 0,.slice none 0 0]
 rk:rb<k0
 nl: ¬Sv mb pb va vn ve lb
section
variable {u u1 u' u'':U} {h h1 h' h'':H} {k0 rb lb mb pb t ui c c':Nat} {L:List Value} {ve va vn va' vn':Value} {R0:List (List oU)} {W:List (List Nat)} {E:List Nat} {r:qW} {A A':List lY} {N:List lG}
theorem Lp.sZ(l:Lp u h u1 h1 k0 rb lb mb pb L ve R0 W E r u' h' t ui va vn A N c)(s:kG S0 u' h' u'' h''):Lp u h u1 h1 k0 rb lb mb pb L ve R0 W E r u'' h'' t ui va vn A N c:=
 ⟨l.kk,l.st.tZ s,l.ge.trans s.ge,l.M.sZ s,l.C,l.B.sZ s,l.Z.sZ s,l.rk,l.nl⟩
theorem Lp.next(l:Lp u h u1 h1 k0 rb lb mb pb L ve R0 W E r u' h' t ui va vn A N c)(hr:CB r){d:oU}(hd:(kQ r)[t]? =some d){n:lG}(hn:n=vC (qJ A d) ui (wd N ui) d)(M':Mk k0 u'' h'' mb pb va' vn' ve (qJ A d) (wE N n) (lX E) (wu (wE N n)) c')(s:kG (Sv mb pb va vn ve) u' h' u'' h'')(g: ∀b,Sv mb pb va' vn' ve b->Sv mb pb va vn ve b\/h'.size<=b):
  Lp u h u1 h1 k0 rb lb mb pb L ve R0 W E r u'' h'' (t+1) (sQ N n) va' vn' (qJ A d) (wE N n) c':=
 ⟨l.kk,l.st.own s λb q=>by have:=(l.M.lt q).1;have:=l.kk;omega,l.ge.trans s.ge,M',(l.C.next hr hd).2 n hn,l.B.step s l.nl,l.Z.step s λq=>by have:=(l.M.lt q).1;have:=l.rk;omega,l.rk,λq=>(g _ q).elim l.nl λq=>by have:=l.B.1;omega⟩
end
end Go.Ev
namespace Go.Proofs.Z
open Go Go.Ev Edict
def KN(vs:List Value)(h:H)(K:Value->H->Prop):Prop:= ∃(u:U) (v:Value) (R:List qW),vs=[v]/\kM u h v R/\R.length<=100000/\(∀r∈R,CB r)/\ ∀u' h' va vn ve A N W E,kG S0 u h u' h'->kM u' h' va A->kM u' h' vn N->kM u' h' ve (lX E)->yD (R.map kQ) W E [] [] 0 A N->K (.tuple #[.agg #[va,vn,ve],.int .i64 0]) h'
def QI:mG:=λf vs h K _=>(f=15/\aex vs h K)\/(f=16/\UA vs h K)\/(f=17/\WE vs h K)\/(f=18/\Uv vs h K)
theorem Ie:nz Tryz.prog QI:=mK abJ (mK KS (mK Nq (qd KQ)))
theorem Nk{vs:List Value}{h:H}{K:Value->H->Prop}{KP:List PanicEntry->H->Prop}(hC:KN vs h K):ma Tryz.prog 4 vs h K KP:=by
 obtain⟨u,v,R,rfl,iv,hR1,hR,hK⟩:=hC
 refine kP 283342056542794664618861 [((some (.c1 (.ldn 3) (.t 2))),(.o1 (.ldn 3) (.t 2))),(none,(.t 3))] Ie Tryz.func4 (by kernel_rfl) (by apply c0 rfl;repeat' first|apply cS|apply cK|apply cL|apply cX|(apply cC (by decide))|(conv=>lhs;cbv;try simp only[mF])) ?_
 obtain⟨va,vc,rfl,-,-⟩:=iv.sl
 obtain⟨h1,u1,hh1,zh1,p1,Z1⟩:=kL u h [.slice none 0 0,.slice none 0 0,.slice none 0 0] 26
 obtain⟨rb,hrb⟩:=kJ h.size
 rw[<-hrb]at Z1
 have Z11:=Z1.1
 simp(disch:=first|omega|simp only[zz];try omega;done) only[↓reduceIte,go_sem,<-hh1,<-hrb]
 -- each rule may be compiled
 obtain⟨I,hI⟩:=kJ (α:=Nat->lm->H->Prop) λk σ h'=> ∃(u':U),σ 0= .slice va R.length vc/\σ 2= .pointer (some ⟨rb,0,none⟩)/\σ 16= .slice va R.length vc/\σ 17= .int .i64 (R.length:Nat)/\σ 18= .int .i64 k/\k<=R.length/\kG S0 u h u' h'/\kV u' h' rb [.slice none 0 0,.slice none 0 0,.slice none 0 0]
 refine kH I (λj=>R.length - j) 0 (by rw[hI];exact⟨u1,by simp [kF],by simp [kF],by simp [kF],by simp [kF],by simp [kF],by omega,p1,Z1⟩) ?_
 clear hh1 Z1
 intro k σ h' hi
 rw[hI]at hi
 obtain⟨u',e0,e2,e16,e17,e18,hk,st,Z⟩:=hi
 have Z0:=Z.1
 by_cases hlt:k<R.length
 case pos=>
  obtain⟨r,hr⟩: ∃y,R[k]? =some y:=⟨R[k],by simp [hlt]⟩
  have hrow:=hR r (aI hr)
  obtain⟨⟨w,hch⟩,hle,-,-⟩:=id hrow
  obtain⟨pb',po,rfl,hpb,hpu,hpz,hpr⟩:=(iv.mono st.ge).row k r hr
  rw[xW]at hpr
  obtain⟨v0,v1,v2,v3,v4,hpr,i0,i1,i2,i3,i4⟩:=hpr
  simp only[Iy,JP,aG,aP]at hpr hpu hpz
  obtain⟨q0,q1,q2,q3,q4,q5,q6⟩:=hpr
  obtain⟨a0,b0,rfl,-,-⟩:=i0.sl
  obtain⟨a1,b1,rfl,-,-⟩:=i1.sl
  obtain⟨a2,b2,rfl,-,-⟩:=i2.sl
  obtain⟨a3,b3,rfl,-,-⟩:=i3.sl
  obtain⟨a4,b4,rfl,-,-⟩:=i4.sl
  have e16':σ 16= .slice (some ⟨pb',po,none⟩) R.length vc:=e16
  have e0':σ 0= .slice (some ⟨pb',po,none⟩) R.length vc:=e0
  have rv:Zn u' h' r _ _ _ _ _:=⟨i0,i1,i2,i3,i4⟩
  obtain⟨h5',h6,u6,hh5,hh6,B5,B6,s6,hz6⟩:=kZ u' h' [.int .i64 0,.slice none 0 0,.slice none 0 0,.slice none 0 0,.slice none 0 0,.slice none 0 0,.int .i64 0] (Ff r (.slice a0 r.1.2.length b0) (.slice a1 r.2.1.length b1) (.slice a2 r.2.2.1.length b2) (.slice a3 r.2.2.2.1.length b3) (.slice a4 r.2.2.2.2.1.length b4)) 63 rfl
  obtain⟨lb,hlb⟩:=kJ h'.size
  rw[<-hlb]at B5 B6 hh6
  simp only[Ff]at hh6 B6
  have B51:=B5.1
  have B61:=B6.1
  simp(disch:=first|omega|simp only[zz];try omega;done) only[↓reduceIte,go_sem,e16',e17,e18,af (show(k:Int)<(R.length:Nat) by omega),q0,q1,q2,q3,q4,q5,q6,<-hlb,<-hh5,<-hh6,B5.2.1,B5.2.2.1,B6.at,B6.2.1]
  refine kD (.inl ⟨rfl,u6,r,w,_,_,_,_,_,rfl,rv.mono s6.ge,ahC hch hle,λu7 h7 s7=>⟨(λp q=>nomatch q),?_⟩⟩)
  simp(disch:=first|omega|simp only[zz];try omega;done) only[↓reduceIte,go_sem,e18]
  refine⟨k+1,?_,by omega⟩
  rw[hI]
  exact⟨u7,by simp [kF,e0'],by simp [kF,e2],by simp [kF,e16'],by simp [kF,e17],by simp [kF],hlt,(st.tZ s6).tZ s7,(Z.sZ s6).sZ s7⟩
 simp(disch:=first|omega|simp only[zz];try omega;done) only[↓reduceIte,go_sem,e17,e18,au (show¬(k:Int)<(R.length:Nat) by omega)]
 clear hI I
 refine kD (.inr (.inl ⟨rfl,u',rfl,λu2 h2 p2=>⟨(λp q=>nomatch q),?_⟩⟩))
 have Z2:=Z.sZ p2
 have st2:=st.tZ p2
 obtain⟨k0,hk0⟩:=kJ h2.size
 have o3:=mr.made (k:=k0) u2 h2 (by omega) 36 [mR] (qM mR (.slice none 0 0) (.slice none 0 0)) rfl (by simp only[bz];decide) (λi y hy=>by
  match i,hy with
  |0,hy=>
   cases hy
   rw[oL]
   exact⟨_,_,rfl,kM.nil _ _,kM.nil _ _⟩
  |i+1,hy=>simp at hy)
 have p3:=kG.push S0 u2 h2 (qM mR (.slice none 0 0) (.slice none 0 0)).toArray 36 (1*Rep.sz lG)
 obtain⟨h3,hh3⟩:=kJ (h2.push (.cells (qM mR (.slice none 0 0) (.slice none 0 0)).toArray 36))
 obtain⟨u3,hu3⟩:=kJ (ub u2 h2.size (1*Rep.sz lG))
 rw[<-hh3,<-hu3]at p3
 have o3:mr k0 u3 h3 (.slice (some ⟨k0,0,none⟩) 1 1) [mR]:=by rw[hh3,hu3,hk0];rw[hk0]at o3;exact o3
 have zh3:h3.size=k0+1:=by rw[hh3,hk0];simp
 simp only[qM,mR,oQ,Jc]at hh3
 have Z3:=Z2.sZ p3
 have st3:=st2.tZ p3
 have hrk:rb<k0:=by rw[hk0];exact Z2.1
 have hk00:h.size<=k0:=by rw[hk0];exact st2.ge.sz
 simp(disch:=first|omega|simp only[zz];try omega;done) only[↓reduceIte,go_sem,qM,mR,oQ,Jc,<-hh3,<-hk0]
 refine LD Zm kE u3 λu4 h4 s4 M4=>⟨(λp q=>nomatch q),?_⟩
 obtain⟨pb,hpb⟩:=kJ h3.size
 rw[<-hpb]at M4 ⊢
 obtain⟨h5,u5,hh5,zh5,p5,B5⟩:=kL u4 h4 [.slice none 0 0,.slice (some ⟨k0,0,none⟩) 1 1,.slice none 0 0,.map (some pb)] 82
 obtain⟨mb,hmb⟩:=kJ h4.size
 rw[<-hmb]at B5
 have hpm:pb<mb:=by rw[hmb];exact M4.lt
 have B51:=B5.1
 have em:(λ_=>none:Nr->Option Int)=wu [mR]:=funext λn=>by
  unfold wu
  rw[ah λq=>q.2 (bJ.1 q.1)]
 rw[em]at M4
 have D5:Mk k0 u5 h5 mb pb (.slice none 0 0) (.slice (some ⟨k0,0,none⟩) 1 1) (.slice none 0 0) [] [mR] (lX []) (wu [mR]) 0:=by
  have key: ∀i v,([.slice none 0 0,.slice (some ⟨k0,0,none⟩) 1 1,.slice none 0 0]:List Value)[i]? =some v-> ∀b,kN v b->i=1/\b=k0:=λi v hv b q=>by
   match i,hv with
   |0,hv=>cases hv;exact absurd q (xE b)
   |1,hv=>cases hv;obtain⟨o,n,c,e⟩:=q;cases e;exact⟨rfl,rfl⟩
   |2,hv=>cases hv;exact absurd q (xE b)
   |i+3,hv=>simp at hv
  refine⟨B5,by omega,by omega,by omega,.nil _ _ _,(o3.sZ s4).sZ p5,.nil _ _ _,⟨λi j v w hv hw hij b q q'=>hij ((key i v hv b q).1.trans (key j w hw b q').1.symm),λv hv b hb q=> ?_,λv hv b q=> ?_,λb hb=> ?_⟩,M4.step p5 λq=>q⟩
  ·obtain⟨i,hi⟩:=dW hv
   have:=(key i v hi b q).2
   simp only[bn,gG,or_false]at hb
   omega
  ·obtain⟨i,hi⟩:=dW hv
   have:=(key i v hi b q).2
   omega
  ·simp only[bn,gG,or_false]at hb
   omega
 have Z5:=(Z3.sZ s4).sZ p5
 have st5:=(st3.tZ s4).tZ p5
 have ep: ∀(a b c d:Value) (x:Option Nat) (h:H),v2 (.put 3 1) (.agg #[a,b,c,d]) (.map x) h= .agg #[a,b,c,.map x]:=λ_ _ _ _ _ _=>rfl
 simp(disch:=first|omega|simp only[zz];try omega;done) only[↓reduceIte,go_sem,e0,ep,<-hh5,<-hmb]
 -- rule by rule
 obtain⟨I,hI⟩:=kJ (α:=Nat->lm->H->Prop) λk σ h'=> ∃(u':U) (xa xn xe:Value) (A:List lY) (N:List lG) (W:List (List Nat)) (E:List Nat) (c:Nat),σ 2= .pointer (some ⟨rb,0,none⟩)/\σ 6= .pointer (some ⟨mb,0,none⟩)/\σ 33= .slice va R.length vc/\σ 34= .int .i64 (R.length:Nat)/\σ 35= .int .i64 k/\k<=R.length/\kG S0 u h u' h'/\kV u' h' rb [.slice none 0 0,.slice none 0 0,.slice none 0 0]/\Mk k0 u' h' mb pb xa xn xe A N (lX E) (wu N) c/\yD ((R.take k).map kQ) W E [] [] 0 A N
 refine kH I (λj=>R.length - j) 0 (by rw[hI];exact⟨u5,_,_,_,[],[mR],[],[],0,by simp [kF,e2],by simp [kF],by simp [kF],by simp [kF],by simp [kF],by omega,st5,Z5,D5,yD.nil⟩) ?_
 clear hh3 hh5 B5 D5 Z5 st5 Z3 Z2 Z st3 st2 st p3 o3 M4 em s4 p5 e0 e2 e16 e17 e18
 intro k σ h' hi
 rw[hI]at hi
 obtain⟨u',xa,xn,xe,A,N,W,E,c,e2,e6,e33,e34,e35,hk,st,Z,D,P⟩:=hi
 have Z0:=Z.1
 have D0:=D.B.1
 obtain⟨ya,yc,rfl,-,-⟩:=D.a.sl
 obtain⟨za,zc,rfl,-,-⟩:=D.n.sl
 obtain⟨wa,wc,rfl,-,-⟩:=D.e.sl
 by_cases hlt:k<R.length
 case neg=>
  rw[aK (by omega)]at P
  have sZ:=kG.sets (S:=λb=>b=rb) u' h' (b:=rb) (o:=0) [.slice ya A.length yc,.slice za N.length zc,.slice wa (lX E).length wc] rfl (by rw[Z.2.2.2.1];exact az _) (by rw[Z.2.1];exact aH _)
  have ZH:=Z.sets (l:=[.slice ya A.length yc,.slice za N.length zc,.slice wa (lX E).length wc]) rfl
  obtain⟨h9,hh9⟩:=kJ (kU h' rb 0 [.slice ya A.length yc,.slice za N.length zc,.slice wa (lX E).length wc])
  rw[<-hh9]at sZ ZH
  have ZH1:=ZH.1
  have hK:=hK u' h9 _ _ _ A N W E (st.own sZ λb q=>by rw[q,hrb];exact aH _) (D.a.iZ.mono sZ.ge) (D.n.iZ.mono sZ.ge) (D.e.iZ.mono sZ.ge) P
  simp(disch:=first|omega|simp only[zz];try omega;done) only[↓reduceIte,go_sem,e2,e6,e34,e35,au (show¬(k:Int)<(R.length:Nat) by omega),D.B.at,D.B.2.1,Z.2.1,Z.2.2.1,<-hh9,ZH.at,ZH.2.1]
  exact hK
 obtain⟨r,hr⟩: ∃y,R[k]? =some y:=⟨R[k],by simp [hlt]⟩
 have hrow:=hR r (aI hr)
 obtain⟨pb',po,rfl,hpb',hpu,hpz,hpr⟩:=(iv.mono st.ge).row k r hr
 rw[xW]at hpr
 obtain⟨v0,v1,v2,v3,v4,hpr,i0,i1,i2,i3,i4⟩:=hpr
 simp only[Iy,JP,aG,aP]at hpr hpu hpz
 obtain⟨q0,q1,q2,q3,q4,q5,q6⟩:=hpr
 obtain⟨a0,b0,rfl,-,-⟩:=i0.sl
 obtain⟨a1,b1,rfl,-,-⟩:=i1.sl
 obtain⟨a2,b2,rfl,-,-⟩:=i2.sl
 obtain⟨a3,b3,rfl,-,-⟩:=i3.sl
 obtain⟨a4,b4,rfl,-,-⟩:=i4.sl
 have e33':σ 33= .slice (some ⟨pb',po,none⟩) R.length vc:=e33
 obtain⟨h5',h6,u6,hh5,hh6,B5,B6,s6,hz6⟩:=kZ u' h' [.int .i64 0,.slice none 0 0,.slice none 0 0,.slice none 0 0,.slice none 0 0,.slice none 0 0,.int .i64 0] (Ff r (.slice a0 r.1.2.length b0) (.slice a1 r.2.1.length b1) (.slice a2 r.2.2.1.length b2) (.slice a3 r.2.2.2.1.length b3) (.slice a4 r.2.2.2.2.1.length b4)) 63 rfl
 obtain⟨lb,hlb⟩:=kJ h'.size
 rw[<-hlb]at B5 B6 hh6
 simp only[Ff]at hh6 B6
 have B51:=B5.1
 have B61:=B6.1
 obtain⟨L,hL⟩:=kJ (α:=List Value) ([.int .i64 r.1.1,.slice a0 r.1.2.length b0,.slice a1 r.2.1.length b1,.slice a2 r.2.2.1.length b2,.slice a3 r.2.2.2.1.length b3,.slice a4 r.2.2.2.2.1.length b4,.int .i64 r.2.2.2.2.2])
 obtain⟨xe,hxe⟩:=kJ (α:=Value) (.slice wa (lX E).length wc)
 obtain⟨R0,hR0'⟩:=kJ ((R.take k).map kQ)
 have hlens:r.2.1.length+r.2.2.1.length+r.2.2.2.1.length<=16:=by
  have:=hrow.2.1
  unfold kQ at this
  simp only[aN,aQ]at this
  omega
 have hR0:R0.length<=100000:=by rw[hR0',aQ,aT];omega
 have hR16: ∀q∈R0,q.length<=16:=λq hq=>by
  rw[hR0']at hq
  obtain⟨x,hx,rfl⟩:=bq.1 hq
  exact(hR x (ed hx)).2.1
 have lp0:Lp u h u' h' k0 rb lb mb pb L xe R0 W E r u6 h6 0 0 (.slice ya A.length yc) (.slice za N.length zc) A N c:=by
  rw[hL,hxe,hR0']
  exact⟨hk00,st.tZ s6,s6.ge,D.sZ s6,Cst.first P hrow,B6,Z.sZ s6,hrk,λq=>by have:=(D.lt q).2;omega⟩
 simp(disch:=first|omega|simp only[zz];try omega;done) only[↓reduceIte,go_sem,e33',e34,e35,af (show(k:Int)<(R.length:Nat) by omega),q0,q1,q2,q3,q4,q5,q6,<-hlb,<-hh5,<-hh6,B5.2.1,B5.2.2.1,B6.at,B6.2.1]
 obtain⟨J1,hJ1⟩:=kJ (α:=Nat->lm->H->Prop) λt σ h''=> ∃(u'':U) (xa xn:Value) (A:List lY) (N:List lG) (c ui:Nat),σ 2= .pointer (some ⟨rb,0,none⟩)/\σ 6= .pointer (some ⟨mb,0,none⟩)/\σ 8= .pointer (some ⟨lb,0,none⟩)/\σ 9= .int .i64 ui/\σ 33= .slice (some ⟨pb',po,none⟩) R.length vc/\σ 34= .int .i64 (R.length:Nat)/\σ 35= .int .i64 k/\σ 40= .slice a1 r.2.1.length b1/\σ 41= .int .i64 (r.2.1.length:Nat)/\σ 42= .int .i64 t/\t<=r.2.1.length/\Lp u h u' h' k0 rb lb mb pb L xe R0 W E r u'' h'' t ui xa xn A N c
 refine kH J1 (λj=>r.2.1.length - j) 0 (by rw[hJ1];exact⟨u6,_,_,A,N,c,0,by simp [kF,e2],by simp [kF,e6],by simp [kF],by simp [kF],by simp [kF,e33'],by simp [kF,e34],by simp [kF,e35],by simp [kF],by simp [kF],by simp [kF],by omega,lp0⟩) ?_
 clear hh5 hh6 B5 B6 s6 lp0 e2 e6 e33 e33' e34 e35 P D Z q0 q1 q2 q3 q4 q5 q6
 intro t σ2 h2 hj
 rw[hJ1]at hj
 obtain⟨u2,xa2,xn2,A2,N2,c2,ui,f2,f6,f8,f9,f33,f34,f35,f40,f41,f42,ht,lp⟩:=hj
 have lpB:=lp.B.1
 have lpM:=lp.M.B.1
 by_cases hlt2:t<r.2.1.length
 case pos=>
  obtain⟨p,hp⟩: ∃y,r.2.1[t]? =some y:=⟨r.2.1[t],by simp [hlt2]⟩
  have hd:=KO hp
  obtain⟨hN0,hN1,hA1,hui,hw0,hw16,hA8,-⟩:=lp.C.bounds hrow hR0 hR16
  obtain⟨⟨w',hcnd⟩,-⟩:=lp.C.next hrow hd
  have hpw:sN p:=by
   rcases hcnd with q|q
   ·exact q.2.2.1
   ·have:=q.1;simp at this
  obtain⟨rb',ro,rfl,hrb',hru,hrz,hrr⟩:=(i1.mono lp.ge).row t p hp
  rw[tV]at hrr
  obtain⟨pv,hrr,ip⟩:=hrr
  simp only[Bu,qX,aG,aP]at hrr hru hrz
  obtain⟨w0,w1⟩:=hrr
  obtain⟨px,pc,rfl,-,-⟩:=ip.sl
  have f40':σ2 40= .slice (some ⟨rb',ro,none⟩) r.2.1.length b1:=f40
  obtain⟨h8',h9,u9,hh8,hh9,C8,C9,s9,hz9⟩:=kZ u2 h2 [.int .i64 0,.slice none 0 0] [.int .i64 p.1,.slice px p.2.length pc] 59 rfl
  obtain⟨qb,hqb⟩:=kJ h2.size
  rw[<-hqb]at C8 C9 hh9
  have C81:=C8.1
  have C91:=C9.1
  have lp9:=lp.sZ s9
  simp(disch:=first|omega|simp only[zz];try omega;done) only[↓reduceIte,go_sem,f6,f9,f40',f41,f42,af (show(t:Int)<(r.2.1.length:Nat) by omega),w0,w1,<-hqb,<-hh8,<-hh9,C8.2.1,C8.2.2.1,C9.at,C9.2.1]
  refine kD (.inr (.inr (.inl ⟨rfl,u9,k0,mb,pb,c2,ui,xa2,xn2,xe,_,A2,N2,lX E,1,wd N2 ui,p,rfl,ip.mono s9.ge,hpw,by have:=lp.kk;have:=lp9.st.ge.sz;have:=lp9.M.B.1;have:=lp9.M.mb0;omega,lp9.M,by omega,hA8,by omega,.inl rfl,hui,rfl,hw0,hw16,λu10 h10 xa10 xn10 c10 M10 s10 g10=>⟨(λp q=>nomatch q),?_⟩⟩)))
  rw[<-abB (k:=1) (.inl rfl)]at M10 ⊢
  have lp10:=lp9.next hrow hd rfl M10 s10 g10
  simp(disch:=first|omega|simp only[zz];try omega;done) only[↓reduceIte,go_sem,f42]
  refine⟨t+1,?_,by omega⟩
  rw[hJ1]
  exact⟨u10,xa10,xn10,_,_,c10,_,by simp [kF,f2],by simp [kF,f6],by simp [kF,f8],by simp [kF],by simp [kF,f33],by simp [kF,f34],by simp [kF,f35],by simp [kF,f40'],by simp [kF,f41],by simp [kF],hlt2,lp10⟩
 have htl:t=r.2.1.length:=by omega
 subst htl
 have L0:kV u2 h2 lb [.int .i64 r.1.1,.slice a0 r.1.2.length b0,.slice a1 r.2.1.length b1,.slice a2 r.2.2.1.length b2,.slice a3 r.2.2.2.1.length b3,.slice a4 r.2.2.2.2.1.length b4,.int .i64 r.2.2.2.2.2]:=by rw[<-hL];exact lp.B
 simp(disch:=first|omega|simp only[zz];try omega;done) only[↓reduceIte,go_sem,f8,f41,f42,au (show¬(r.2.1.length:Int)<(r.2.1.length:Nat) by omega),L0.at,L0.2.1]
 obtain⟨J2,hJ2⟩:=kJ (α:=Nat->lm->H->Prop) λt σ h''=> ∃(u'':U) (xa xn:Value) (A:List lY) (N:List lG) (c ui:Nat),σ 2= .pointer (some ⟨rb,0,none⟩)/\σ 6= .pointer (some ⟨mb,0,none⟩)/\σ 8= .pointer (some ⟨lb,0,none⟩)/\σ 9= .int .i64 ui/\σ 33= .slice (some ⟨pb',po,none⟩) R.length vc/\σ 34= .int .i64 (R.length:Nat)/\σ 35= .int .i64 k/\σ 52= .slice a2 r.2.2.1.length b2/\σ 53= .int .i64 (r.2.2.1.length:Nat)/\σ 54= .int .i64 t/\t<=r.2.2.1.length/\Lp u h u' h' k0 rb lb mb pb L xe R0 W E r u'' h'' (r.2.1.length+t) ui xa xn A N c
 refine kH J2 (λj=>r.2.2.1.length - j) 0 (by rw[hJ2];exact⟨u2,xa2,xn2,A2,N2,c2,ui,by simp [kF,f2],by simp [kF,f6],by simp [kF,f8],by simp [kF,f9],by simp [kF,f33],by simp [kF,f34],by simp [kF,f35],by simp [kF],by simp [kF],by simp [kF],by omega,lp⟩) ?_
 clear hlt2 f40 f41 f42 f2 f6 f8 f9 f33 f34 f35 lpB lpM L0 ht lp hJ1 J1
 clear c2 ui A2 N2 xa2 xn2 u2 h2 σ2
 intro t σ2 h2 hj
 rw[hJ2]at hj
 obtain⟨u2,xa2,xn2,A2,N2,c2,ui,f2,f6,f8,f9,f33,f34,f35,f52,f53,f54,ht,lp⟩:=hj
 have lpB:=lp.B.1
 have lpM:=lp.M.B.1
 by_cases hlt2:t<r.2.2.1.length
 case pos=>
  obtain⟨y,hy⟩: ∃y,r.2.2.1[t]? =some y:=⟨r.2.2.1[t],by simp [hlt2]⟩
  have hd:=Yx hy
  obtain⟨hN0,hN1,hA1,hui,hw0,hw16,hA8,-⟩:=lp.C.bounds hrow hR0 hR16
  have hcnd:=(lp.C.next hrow hd).1
  obtain⟨fit,nr,en⟩:=WB (A:=A2) (ui:=ui) hcnd (hrow.2.2.2 y (aI hy)) (by omega) hw0 hw16
  obtain⟨rb',ro,rfl,hrb',hru,hrz,hrr⟩:=(i2.mono lp.ge).row t y hy
  rw[FO]at hrr
  simp only[UL,Vi,aG,aP]at hrr hru hrz
  obtain⟨w0,w1,w2,w3,w4⟩:=hrr
  have f52':σ2 52= .slice (some ⟨rb',ro,none⟩) r.2.2.1.length b2:=f52
  obtain⟨h8',h9,u9,hh8,hh9,C8,C9,s9,hz9⟩:=kZ u2 h2 [.int .i64 0,.bool false,.int .i64 0,.bool false,.int .i64 0] [.int .i64 y.1,.bool y.2.1.1,.int .i64 y.2.1.2,.bool y.2.2.1,.int .i64 y.2.2.2] 34 rfl
  obtain⟨qb,hqb⟩:=kJ h2.size
  rw[<-hqb]at C8 C9 hh9
  have C81:=C8.1
  have C91:=C9.1
  have lp9:=lp.sZ s9
  have lp9M:=lp9.M.B.1
  obtain⟨x,hx⟩:=uu hui
  have hxw:x.2.2.2.2.2.2=wd N2 ui:=by rw[zI hx]
  obtain⟨na,nc,rfl,-,-⟩:=lp9.M.n.sl
  obtain⟨nb,no,rfl,hnb,hnu,hnz,hnr⟩:=lp9.M.n.iZ.row ui x hx
  rw[oL]at hnr
  obtain⟨xv,xw,hnr,-,-⟩:=hnr
  simp only[rF,qR,aG,aP]at hnr hnu hnz
  obtain⟨-,-,-,-,-,-,-,-,-,-,n10⟩:=hnr
  rw[hxw]at n10
  have hA:qJ A2 (2,zy,y)=A2:=ay (.inl rfl)
  obtain⟨w,hw⟩:=kJ (wd N2 ui)
  rw[<-hw]at n10 fit nr en hw0 hw16
  simp(disch:=first|omega|simp only[zz];try omega;done) only[↓reduceIte,go_sem,f6,f9,f52',f53,f54,af (show(t:Int)<(r.2.2.1.length:Nat) by omega),w0,w1,w2,w3,w4,<-hqb,<-hh8,<-hh9,C8.2.1,C8.2.2.1,C9.at,C9.2.1,lp9.M.B.at,lp9.M.B.2.1,n10,af (show(0:Int)<=(ui:Int) by omega),af (show(ui:Int)<(N2.length:Nat) by omega)]
  rw[en]at fit nr
  refine kD (.inr (.inr (.inr ⟨rfl,u9,k0,mb,pb,c2,xa2,_,xe,.slice none 0 0,.slice none 0 0,A2,N2,lX E,(2,(ui:Int),-1,[],[],y,w),rfl,kM.nil _ _,kM.nil _ _,fit,nr,by have:=lp.kk;have:=lp9.st.ge.sz;have:=lp9.M.B.1;have:=lp9.M.mb0;omega,lp9.M,by omega,λu10 h10 xn10 c10 M10 s10 g10=>⟨(λp q=>nomatch q),?_⟩⟩)))
  rw[<-en,<-hA,hw]at M10 ⊢
  have lp10:=lp9.next hrow hd (by rw[hA]) M10 s10 λb q=>by
   rcases q with q|q|q|q|q
   ·exact .inl (.inl q)
   ·exact .inl (.inr (.inl q))
   ·exact .inl (.inr (.inr (.inl q)))
   ·exact(g10 b q).imp (λq=> .inr (.inr (.inr (.inl q)))) id
   ·exact .inl (.inr (.inr (.inr (.inr q))))
  simp(disch:=first|omega|simp only[zz];try omega;done) only[↓reduceIte,go_sem,f54]
  refine⟨t+1,?_,by omega⟩
  rw[hJ2]
  exact⟨u10,xa2,xn10,_,_,c10,_,by simp [kF,f2],by simp [kF,f6],by simp [kF,f8],by simp [kF],by simp [kF,f33],by simp [kF,f34],by simp [kF,f35],by simp [kF,f52'],by simp [kF,f53],by simp [kF],hlt2,lp10⟩
 have htl:t=r.2.2.1.length:=by omega
 subst htl
 have L0:kV u2 h2 lb [.int .i64 r.1.1,.slice a0 r.1.2.length b0,.slice a1 r.2.1.length b1,.slice a2 r.2.2.1.length b2,.slice a3 r.2.2.2.1.length b3,.slice a4 r.2.2.2.2.1.length b4,.int .i64 r.2.2.2.2.2]:=by rw[<-hL];exact lp.B
 simp(disch:=first|omega|simp only[zz];try omega;done) only[↓reduceIte,go_sem,f8,f53,f54,au (show¬(r.2.2.1.length:Int)<(r.2.2.1.length:Nat) by omega),L0.at,L0.2.1]
 obtain⟨J3,hJ3⟩:=kJ (α:=Nat->lm->H->Prop) λt σ h''=> ∃(u'':U) (xa xn:Value) (A:List lY) (N:List lG) (c ui:Nat),σ 2= .pointer (some ⟨rb,0,none⟩)/\σ 6= .pointer (some ⟨mb,0,none⟩)/\σ 8= .pointer (some ⟨lb,0,none⟩)/\σ 9= .int .i64 ui/\σ 33= .slice (some ⟨pb',po,none⟩) R.length vc/\σ 34= .int .i64 (R.length:Nat)/\σ 35= .int .i64 k/\σ 74= .slice a3 r.2.2.2.1.length b3/\σ 75= .int .i64 (r.2.2.2.1.length:Nat)/\σ 76= .int .i64 t/\t<=r.2.2.2.1.length/\Lp u h u' h' k0 rb lb mb pb L xe R0 W E r u'' h'' (r.2.1.length+r.2.2.1.length+t) ui xa xn A N c
 refine kH J3 (λj=>r.2.2.2.1.length - j) 0 (by rw[hJ3];exact⟨u2,xa2,xn2,A2,N2,c2,ui,by simp [kF,f2],by simp [kF,f6],by simp [kF,f8],by simp [kF,f9],by simp [kF,f33],by simp [kF,f34],by simp [kF,f35],by simp [kF],by simp [kF],by simp [kF],by omega,lp⟩) ?_
 clear hlt2 f52 f53 f54 f2 f6 f8 f9 f33 f34 f35 lpB lpM L0 ht lp hJ2 J2
 clear c2 ui A2 N2 xa2 xn2 u2 h2 σ2
 intro t σ2 h2 hj
 rw[hJ3]at hj
 obtain⟨u2,xa2,xn2,A2,N2,c2,ui,f2,f6,f8,f9,f33,f34,f35,f74,f75,f76,ht,lp⟩:=hj
 have lpB:=lp.B.1
 have lpM:=lp.M.B.1
 by_cases hlt2:t<r.2.2.2.1.length
 case pos=>
  obtain⟨p,hp⟩: ∃y,r.2.2.2.1[t]? =some y:=⟨r.2.2.2.1[t],by simp [hlt2]⟩
  have hd:=Yy hp
  obtain⟨hN0,hN1,hA1,hui,hw0,hw16,hA8,-⟩:=lp.C.bounds hrow hR0 hR16
  obtain⟨⟨w',hcnd⟩,-⟩:=lp.C.next hrow hd
  have hpw:sN p:=by
   rcases hcnd with q|q
   ·exact q.2.2.1
   ·have:=q.1;simp at this
  obtain⟨rb',ro,rfl,hrb',hru,hrz,hrr⟩:=(i3.mono lp.ge).row t p hp
  rw[tV]at hrr
  obtain⟨pv,hrr,ip⟩:=hrr
  simp only[Bu,qX,aG,aP]at hrr hru hrz
  obtain⟨w0,w1⟩:=hrr
  obtain⟨px,pc,rfl,-,-⟩:=ip.sl
  have f74':σ2 74= .slice (some ⟨rb',ro,none⟩) r.2.2.2.1.length b3:=f74
  obtain⟨h8',h9,u9,hh8,hh9,C8,C9,s9,hz9⟩:=kZ u2 h2 [.int .i64 0,.slice none 0 0] [.int .i64 p.1,.slice px p.2.length pc] 59 rfl
  obtain⟨qb,hqb⟩:=kJ h2.size
  rw[<-hqb]at C8 C9 hh9
  have C81:=C8.1
  have C91:=C9.1
  have lp9:=lp.sZ s9
  simp(disch:=first|omega|simp only[zz];try omega;done) only[↓reduceIte,go_sem,f6,f9,f74',f75,f76,af (show(t:Int)<(r.2.2.2.1.length:Nat) by omega),w0,w1,<-hqb,<-hh8,<-hh9,C8.2.1,C8.2.2.1,C9.at,C9.2.1]
  refine kD (.inr (.inr (.inl ⟨rfl,u9,k0,mb,pb,c2,ui,xa2,xn2,xe,_,A2,N2,lX E,3,wd N2 ui,p,rfl,ip.mono s9.ge,hpw,by have:=lp.kk;have:=lp9.st.ge.sz;have:=lp9.M.B.1;have:=lp9.M.mb0;omega,lp9.M,by omega,hA8,by omega,.inr rfl,hui,rfl,hw0,hw16,λu10 h10 xa10 xn10 c10 M10 s10 g10=>⟨(λp q=>nomatch q),?_⟩⟩)))
  rw[<-abB (k:=3) (.inr rfl)]at M10 ⊢
  have lp10:=lp9.next hrow hd rfl M10 s10 g10
  simp(disch:=first|omega|simp only[zz];try omega;done) only[↓reduceIte,go_sem,f76]
  refine⟨t+1,?_,by omega⟩
  rw[hJ3]
  exact⟨u10,xa10,xn10,_,_,c10,_,by simp [kF,f2],by simp [kF,f6],by simp [kF,f8],by simp [kF],by simp [kF,f33],by simp [kF,f34],by simp [kF,f35],by simp [kF,f74'],by simp [kF,f75],by simp [kF],hlt2,lp10⟩
 have htl:t=r.2.2.2.1.length:=by omega
 subst htl
 have P2:=lp.C.P.choose_spec
 have hEl:=P2.el
 have hEl2:(lX E).length=E.length:=by unfold lX;simp
 obtain⟨W',P'⟩:=lp.C.last (by unfold kQ;simp [dY])
 simp(disch:=first|omega|simp only[zz];try omega;done) only[↓reduceIte,go_sem,f6,f9,f75,f76,au (show¬(r.2.2.2.1.length:Int)<(r.2.2.2.1.length:Nat) by omega),lp.M.B.at,lp.M.B.2.1]
 refine kK (by simp only[]) lp.M.e (x:=(ui:Int)) (by rw[lD]) rfl rfl (by have:=lp.kk;have:=lp.st.ge.sz;have:=lp.M.B.1;have:=lp.M.mb0;omega) (by omega) λa8 n8 c8 u8 h8 o8 s8 hO8=>⟨(λp q=>nomatch q),?_⟩
 obtain⟨B9,D9,s9⟩:=lp.M.setE o8 s8 hO8
 obtain⟨h9,hh9⟩:=kJ (lh h8 mb 2 (.slice a8 n8 c8))
 rw[<-hh9]at D9 s9
 have ei:lX E++[(ui:Int)]=lX (E++[ui]):=by unfold lX;simp
 rw[ei]at D9
 have ec:R0++[kQ r]=(R.take (k+1)).map kQ:=by rw[hR0',aS,hr];simp
 rw[ec]at P'
 have Z9:=lp.Z.step s9 λq=>by have:=(lp.M.lt q).1;have:=lp.rk;omega
 have st9:=lp.st.own s9 λb q=>by have:=(lp.M.lt q).1;have:=lp.kk;omega
 simp(disch:=first|omega|simp only[zz];try omega;done) only[↓reduceIte,go_sem,f6,f35,B9.2.1,B9.2.2.1,<-hh9]
 refine⟨k+1,?_,by omega⟩
 rw[hI]
 exact⟨u8,xa2,xn2,_,A2,N2,W',E++[ui],c2,by simp [kF,f2],by simp [kF,f6],by simp [kF,f33],by simp [kF,f34],by simp [kF],hlt,st9,Z9,D9,P'⟩
end Go.Proofs.Z
namespace Edict
open Go.Ev
variable {c:oU} {A:List lY} {N:List lG} {ws:List Nat} {cs:List oU} {u i:Nat}
def Nj(A:List lY)(N:List lG)(i u:Nat)(cs:List oU)(ws:List Nat)(c:oU):Prop:=Path A N cs ws u/\u<i/\i<N.length/\N[i]? =some (vC A u (wd N u) c)/\vO (wd N u) (wd N i) c/\Je A c/\(cs++[c]).length<=16/\(cs++[c]).Pairwise (λa b=>a.1<=b.1)/\wz (vC A u (wd N u) c)
structure DL (A:List lY) (N:List lG) (W:List (List Nat)) (E:List Nat):Prop where
 al:A.length<=1600017
 nl:N.length<=1600017
 n0:0<N.length
 rt:N[0]? =some mR
 nd:N.Nodup
 ad:A.Nodup
 use:yg A.length 0 N=some A.length
 shp: ∀s∈A,∃p,sN p/\s=lJ p
 wid: ∀i,i<N.length->0<=wd N i/\wd N i<=16
 all: ∀i,0<i->i<N.length-> ∃u cs ws c,Nj A N i u cs ws c
 el:E.length<=100000
 wl:W.length=E.length
 ends : ∀ (j e : Nat), E[j]? = some e -> ∃ cs ws, Path A N cs ws e /\ W[j]? = some ws /\ cs.length <= 16
 fin:tF 1 W=some N.length
theorem adT{r:qW}(h:c∈kQ r)(h2:c.1=2): ∃t∈r.2.2.1,c=(2,zy,t):=by
 unfold kQ at h
 rcases bG.1 h with h|h
 ·obtain⟨p,-,rfl⟩:=bq.1 h;simp at h2
 ·rcases bG.1 h with h|h
  ·obtain⟨t,ht,rfl⟩:=bq.1 h;exact⟨t,ht,rfl⟩
  ·obtain⟨p,-,rfl⟩:=bq.1 h;simp at h2
theorem yD.ok{R:List qW}{W:List (List Nat)}{E:List Nat}(P:yD (R.map kQ) W E [] [] 0 A N)(hR: ∀r∈R,CB r)(hl:R.length<=100000):DL A N W E:=by
 have h16: ∀q∈R.map kQ,q.length<=16:=λq hq=>by
  obtain⟨x,hx,rfl⟩:=bq.1 hq
  exact(hR x hx).2.1
 obtain⟨b1,b2,b3,-⟩:=P.bounds (by rw[aQ];exact hl) h16 (az _)
 have hel:=P.el
 rw[aQ]at hel
 refine⟨b3,b2,b1,P.inv.rt,P.inv.nd,P.inv.ad,P.use,P.shp,P.wid,λi h0 hi=> ?_,by omega,by rw[P.wl,P.el],λj e he=> ?_,?_⟩
 ·obtain⟨r,hr,k,vs,q⟩:=P.cov i hi
  have hr:r∈R.map kQ:=by
   rcases hr with hr|rfl
   ·exact hr
   ·rw[List.take_nil]at q
    rcases q.fst with⟨rfl,-,-⟩|⟨-,cs',_,_,_,e,_⟩
    ·omega
    ·simp at e
  obtain⟨r0,hr0,rfl⟩:=bq.1 hr
  obtain⟨-,hle,hpw,hsm⟩:=hR r0 hr0
  rcases q.fst with⟨rfl,-,-⟩|⟨-,cs,ws,u,c,e,-,q',h1,h2,h3,h4,h5⟩
  ·omega
  ·have hm:c∈kQ r0:=ed (i:=k) (by rw[e];simp)
   refine⟨u,cs,ws,c,q',h1,h2,h3,h4,h5,?_,?_,?_⟩
   ·rw[<-e,aT];omega
   ·rw[<-e];exact hpw.sublist (jo _ _)
   ·have hw:=P.wid u (by omega)
    by_cases hk:c.1=2
    ·obtain⟨t,ht,rfl⟩:=adT hm hk
     exact(WB ⟨_,h4⟩ (hsm t ht) (by omega) hw.1 hw.2).1
    ·obtain⟨k',p,t⟩:=c
     simp only at hk
     rcases h4 with⟨a1,a2,a3,-⟩|⟨a1,-⟩
     ·simp only at a2
      subst a2
      exact(WC (A:=A) (p:=p) (by rcases a1 with a1|a1;exact .inl a1;exact .inr a1.1) a3 (by omega) (by have:ut A (lJ p)<A.length:=(ug (h5.resolve_left hk)).1;omega) (by omega) hw.1 hw.2).1
     ·exact absurd a1 hk
 ·have hj:=(aJ.1 he).1
  obtain⟨r,hr⟩: ∃r,(R.map kQ)[j]? =some r:=⟨(R.map kQ)[j]'(by rw[aQ];omega),by rw[aL]⟩
  obtain⟨ws,e',q1,q2,q3⟩:=P.done j r hr
  rw[he]at q2
  cases q2
  exact⟨r,ws,q3,q1,h16 r (aI hr)⟩
 ·obtain⟨x,Df,Tc⟩:=P.fin
  cases Tc
  exact Df
theorem adU(q:Path A N cs ws u):(cs=[]/\ws=[]/\u=0)\/ ∃cs' d,cs=cs'++[d]/\kd N u=d.1/\0<u:=by
 rcases q.fst with⟨h1,h2,h3⟩|⟨h0,cs',ws',v,c,h1,h2,q',h3,h4,h5,h6,h7⟩
 ·exact .inl ⟨h2,h3,h1⟩
 ·exact .inr ⟨cs',c,h1,by rw[Sk h5,Fu.1],h0⟩
theorem Nj.kd(h:Nj A N i u cs ws c)(rt:N[0]? =some mR):Edict.kd N u<=c.1:=by
 obtain⟨q,-,-,-,h4,-,-,hp,-⟩:=h
 rcases adU q with⟨-,-,rfl⟩|⟨cs',d,rfl,e,-⟩
 ·rw[Sk rt]
  have:(0:Int)<=c.1:=by rcases h4 with⟨a|a,-⟩|⟨a,-⟩<;>omega
  exact this
 ·rw[e]
  rw[bB,fD]at hp
  have:=hp.2.1
  simp at this
  exact this
theorem Nj.kd0(h:Nj A N i u cs ws c)(rt:N[0]? =some mR):0<=Edict.kd N u:=by
 obtain⟨q,-⟩:=h
 rcases q.fst with⟨rfl,-,-⟩|⟨h0,cs',ws',v,c',h1,h2,q',h3,h4,h5,h6,h7⟩
 ·rw[Sk rt];decide
 ·rw[Sk h5,Fu.1];rcases h6 with⟨a|a,-⟩|⟨a,-⟩<;>omega
end Edict
namespace Edict
variable {k:Nat} {l:List Int}
def yB(l:List Int)(k:Nat):List Int:=(List.range l.length).map λx=>l.getD (if x<k\/l.length - k<=x then l.length - 1 - x else x) 0
theorem yZ{x:Nat}(h:x<l.length):(yB l k)[x]? =some (l.getD (if x<k\/l.length - k<=x then l.length - 1 - x else x) 0):=by
 unfold yB
 rw[aR,bT h];rfl
theorem uq:(yB l k).length=l.length:=by unfold yB;simp
theorem Yv:yB l 0=l:=by
 refine bW λx=> ?_
 by_cases h:x<l.length
 ·rw[yZ h,ah (by omega),aO,aL h];rfl
 ·rw[aW (by rw[uq];omega),aW (by omega)]
theorem aby(h:l.length<=2*k+1):yB l k=l.reverse:=by
 refine bW λx=> ?_
 by_cases hx:x<l.length
 ·rw[yZ hx,List.getElem?_reverse hx,aO]
  have e:(if x<k\/l.length - k<=x then l.length - 1 - x else x)=l.length - 1 - x:=by
   split
   ·rfl
   ·omega
  rw[e,aL (by omega)];rfl
 ·rw[aW (by rw[uq];omega),aW (by rw[gP];omega)]
theorem Yw(h:2*k+1<l.length):yB l (k+1)=((yB l k).set k ((yB l k).getD (l.length - 1 - k) 0)).set (l.length - 1 - k) ((yB l k).getD k 0):=by
 have g: ∀x,x<l.length->(yB l k).getD x 0=l.getD (if x<k\/l.length - k<=x then l.length - 1 - x else x) 0:=λx hx=>by
  rw[aO,yZ hx];rfl
 refine bW λx=> ?_
 by_cases hx:x<l.length
 ·rw[yZ hx,fA,fA,uq,dS,uq,g _ (by omega),g _ (by omega),yZ hx]
  by_cases h1:l.length - 1 - k=x
  ·rw[ay h1,ay (show l.length - 1 - k<l.length by omega),ay (show x<k+1\/l.length - (k+1)<=x by omega),ah (show¬(k<k\/l.length - k<=k) by omega),show l.length - 1 - x=k by omega]
  ·rw[ah h1]
   by_cases h2:k=x
   ·rw[ay h2,ay (show k<l.length by omega),ay (show x<k+1\/l.length - (k+1)<=x by omega),ah (show¬(l.length - 1 - k<k\/l.length - k<=l.length - 1 - k) by omega),show l.length - 1 - x=l.length - 1 - k by omega]
   ·rw[ah h2]
    by_cases h3:x<k\/l.length - k<=x
    ·rw[ay h3,ay (show x<k+1\/l.length - (k+1)<=x by omega)]
    ·rw[ah h3,ah (show¬(x<k+1\/l.length - (k+1)<=x) by omega)]
 ·rw[aW (by rw[uq];omega),aW (by rw[dS,dS,uq];omega)]
end Edict
namespace Go.Proofs.Z
open Go Go.Ev Edict
variable {vs:List Value} {h:H} {K:Value->H->Prop} {KP:List PanicEntry->H->Prop}
def KM(vs:List Value)(h:H)(K:Value->H->Prop):Prop:=(vs=[.slice none 0 0]/\K (.tuple #[]) h)\/ ∃(u:U) (b c:Nat) (l:List Int) (t:List Value),vs=[.slice (some ⟨b,0,none⟩) l.length c]/\l.length<=1000000/\kV u h b (lT l++t)/\ ∀h',kG (λx=>x=b) u h u h'->kV u h' b (lT l.reverse++t)->K (.tuple #[]) h'
theorem Ni(hC:KM vs h K):ma Tryz.prog 75 vs h K KP:=by
 rcases hC with⟨rfl,hK⟩|⟨u,b,c,l,t,rfl,hl,B,hK⟩
 ·refine kP 525 [] (G:=(λ_ _ _ _ _=>False)) (λ_ _ _ _ _ h=>h.elim) Tryz.func75 (by kernel_rfl) (by apply c0 rfl;repeat' first|apply cS|apply cK|apply cL|apply cX|(apply cC (by decide))|with_reducible exact cV 3 (.sts [(zx 1 (.t 0) (.t 3)),(zh (zi 1 (.t 0) (.t 3))),(zx 1 (.t 0) (.t 2)),(zh (zi 1 (.t 0) (.t 2))),(zx 1 (.t 0) (.t 2)),(.set 25 (zl (zi 1 (.t 0) (.t 2)))),(.set 21 (zl (zi 1 (.t 0) (.t 3)))),(.eff [] none (.store 1) [(zi 1 (.t 0) (.t 2)),(.t 21)] []),(zx 1 (.t 0) (.t 3)),(.eff [] none (.store 1) [(zi 1 (.t 0) (.t 3)),(.t 25)] [])]) (by kernel_rfl)|(conv=>lhs;cbv;try simp only[mF])) ?_
  simp(disch:=first|omega|simp only[zz];try omega;done) only[↓reduceIte,go_sem]
  refine kH (fun(_:Nat) (σ:lm) h'=>h'=h/\σ 2= .int .i64 0/\σ 3= .int .i64 (-1)) (λ_=>0) 0 ⟨rfl,by simp [kF],by simp [kF]⟩ ?_
  rintro k σ h' ⟨rfl,e2,e3⟩
  simp(disch:=first|omega|simp only[zz];try omega;done) only[↓reduceIte,go_sem,e2,e3]
  exact hK
 ·refine kP 525 [] (G:=(λ_ _ _ _ _=>False)) (λ_ _ _ _ _ h=>h.elim) Tryz.func75 (by kernel_rfl) (by apply c0 rfl;repeat' first|apply cS|apply cK|apply cL|apply cX|(apply cC (by decide))|with_reducible exact cV 3 (.sts [(zx 1 (.t 0) (.t 3)),(zh (zi 1 (.t 0) (.t 3))),(zx 1 (.t 0) (.t 2)),(zh (zi 1 (.t 0) (.t 2))),(zx 1 (.t 0) (.t 2)),(.set 25 (zl (zi 1 (.t 0) (.t 2)))),(.set 21 (zl (zi 1 (.t 0) (.t 3)))),(.eff [] none (.store 1) [(zi 1 (.t 0) (.t 2)),(.t 21)] []),(zx 1 (.t 0) (.t 3)),(.eff [] none (.store 1) [(zi 1 (.t 0) (.t 3)),(.t 25)] [])]) (by kernel_rfl)|(conv=>lhs;cbv;try simp only[mF])) ?_
  simp(disch:=first|omega|simp only[zz];try omega;done) only[↓reduceIte,go_sem]
  obtain⟨I,hI⟩:=kJ (α:=Nat->lm->H->Prop) λk σ h'=>σ 0= .slice (some ⟨b,0,none⟩) l.length c/\σ 2= .int .i64 k/\σ 3= .int .i64 ((l.length:Int) - 1 - k)/\k<=l.length/\kG (λx=>x=b) u h u h'/\kV u h' b (lT (yB l k)++t)
  refine kH I (λj=>l.length - j) 0 (by rw[hI];exact⟨by simp [kF],by simp [kF],by simp [kF],by omega,.refl _ _ _,by rw[Yv];exact B⟩) ?_
  intro k σ h' hi
  rw[hI]at hi
  obtain⟨e0,e2,e3,hk,st,Bk⟩:=hi
  have hpl:(lT (yB l k)).length=l.length:=by simp [lT,uq]
  by_cases hlt:2*k+1<l.length
  case neg=>
   rw[aby (by omega)]at Bk
   simp(disch:=first|omega|simp only[zz];try omega;done) only[↓reduceIte,go_sem,e2,e3,au (show¬(k:Int)<(l.length:Int) - 1 - k by omega)]
   exact hK h' st Bk
  obtain⟨j,hj⟩:=kJ (l.length - 1 - k)
  have hj3:((l.length:Int) - 1 - k)=(j:Int):=by omega
  rw[hj3]at e3
  have at': ∀x,x<l.length->hv h' b x= .int .i64 ((yB l k).getD x 0):=λx hx=>by
   refine Bk.2.2.2.2 x _ ?_
   rw[bi (by omega)]
   unfold lT
   rw[aR,aO]
   rw[aL (by rw[uq];exact hx)];rfl
  have ak:=at' k (by omega)
  have aj:=at' j (by omega)
  obtain⟨x,hx⟩:=kJ ((yB l k).getD k 0)
  obtain⟨y,hy⟩:=kJ ((yB l k).getD j 0)
  rw[<-hx]at ak
  rw[<-hy]at aj
  have B1:=Bk.set (i:=k) (v:= .int .i64 y) (by rw[aN,hpl];omega)
  have s1:=kG.set (S:=λz=>z=b) u h' (b:=b) (o:=k) (.int .i64 y) rfl (by rw[Bk.2.2.2.1];exact az _)
  obtain⟨h1,hh1⟩:=kJ (lh h' b k (.int .i64 y))
  rw[<-hh1]at B1 s1
  have B2:=B1.set (i:=j) (v:= .int .i64 x) (by rw[dS,aN,hpl];omega)
  have s2:=kG.set (S:=λz=>z=b) u h1 (b:=b) (o:=j) (.int .i64 x) rfl (by rw[B1.2.2.2.1];exact az _)
  obtain⟨h2,hh2⟩:=kJ (lh h1 b j (.int .i64 x))
  rw[<-hh2]at B2 s2
  have e:((lT (yB l k)++t).set k (.int .i64 y)).set j (.int .i64 x)=lT (yB l (k+1))++t:=by
   rw[Yw hlt,<-hj,<-hx,<-hy,jV _ _ (by omega),jV _ _ (by rw[dS];omega)]
   unfold lT
   rw[iV,iV]
  rw[e]at B2
  have z1:hsz h' b=l.length+t.length:=by rw[Bk.2.1,aN,hpl]
  have z2:hsz h1 b=l.length+t.length:=by rw[B1.2.1,dS,aN,hpl]
  simp(disch:=first|omega|simp only[zz];try omega;done) only[↓reduceIte,go_sem,aZ,e0,e2,e3,af (show(k:Int)<(j:Int) by omega),af (show(k:Int)<(l.length:Nat) by omega),af (show(j:Int)<(l.length:Nat) by omega),af (show(0:Int)<=(k:Int) by omega),af (show(0:Int)<=(j:Int) by omega),ak,aj,z1,Bk.2.2.1,af (show k<l.length+t.length by omega),af (show j<l.length+t.length by omega),<-hh1,z2,B1.2.2.1,<-hh2]
  refine⟨by omega,az _,by omega,az _,k+1,?_,by omega⟩
  rw[hI]
  exact⟨by simp [kF,e0],by simp [kF],by simp [kF];omega,by omega,(st.trans s1 λ_ _ q=>q).trans s2 λ_ _ q=>q,B2⟩
def abz(vs:List Value)(h:H)(K:Value->H->Prop):Prop:= ∃(u:U) (va vn ve:Value) (node:Nat) (A:List lY) (N:List lG) (cs:List oU) (ws:List Nat),vs=[.agg #[va,vn,ve],.int .i64 node]/\mg va=true/\mg ve=true/\kM u h vn N/\Path A N cs ws node/\cs.length<=1000/\N.length<=2000000/\ ∀u' h' v,kG S0 u h u' h'->kM u' h' v (lX ws)->K v h'
def adS:mG:=λf vs h K _=>f=75/\KM vs h K
theorem Ut:nz Tryz.prog adS:=qd Ni
theorem QH(hC:abz vs h K):ma Tryz.prog 36 vs h K KP:=by
 obtain⟨u,va,vn,ve,node,A,N,cs,ws,rfl,oka,oke,iv,pth,hcl,hN,hK⟩:=hC
 refine kP 183 [(none,(.t 4))] Ut Tryz.func36 (by kernel_rfl) (by conv=>lhs;cbv;try simp only[mF]) ?_
 obtain⟨na,nc,rfl,-,-⟩:=iv.sl
 obtain⟨h1,u1,hh1,zh1,p1,B1⟩:=kL u h [va,.slice na N.length nc,ve] 26
 obtain⟨b1,hb1⟩:=kJ h.size
 rw[<-hb1]at B1
 have hwl:=pth.len
 simp(disch:=first|omega|simp only[zz];try omega;done) only[↓reduceIte,go_sem,<-hh1,<-hb1]
 obtain⟨I,hI⟩:=kJ (α:=Nat->lm->H->Prop) λk σ h'=> ∃(u':U) (x:Nat) (cs':List oU) (ws' tl:List Nat) (v:Value),σ 1= .int .i64 x/\σ 2= .pointer (some ⟨b1,0,none⟩)/\σ 5=v/\k=x/\Path A N cs' ws' x/\ws=ws'++tl/\kG S0 u h u' h'/\kV u' h' b1 [va,.slice na N.length nc,ve]/\mr (b1+1) u' h' v (lX tl.reverse)
 refine kH I (λj=>j) node (by rw[hI];exact⟨u1,node,cs,ws,[],.slice none 0 0,by simp [kF],by simp [kF],by simp [kF],rfl,pth,by simp,p1,B1,.nil _ _ _⟩) ?_
 clear hh1 B1
 intro k σ h' hi
 rw[hI]at hi
 obtain⟨u',x,cs',ws',tl,v,e1,e2,e5,rfl,pt,hws,st,B,ow⟩:=hi
 have B0:=B.1
 have htl:tl.length<=1000:=by have:=bL List.length hws;rw[aN]at this;omega
 have hil:(lX tl.reverse).length=tl.length:=by unfold lX;simp
 rcases pt.fst with⟨rfl,-,rfl⟩|⟨h0,cs2,ws2,w,c,rfl,rfl,pt2,hlt,hxl,hrow,-,-⟩
 ·rw[bI]at hws
  subst hws
  have hrev:(lX ws.reverse).reverse=lX ws:=by unfold lX;rw[<-List.map_reverse,List.reverse_reverse]
  rcases ow with⟨rfl,hnil⟩|⟨b,c,rfl,w1,w2,w3,w4,w5,w6,w7,w8⟩
  ·have hnil:ws=[]:=by unfold lX at hnil;simpa using hnil
   subst hnil
   have hK:=hK u' h' _ st (kM.nil _ _)
   simp(disch:=first|omega|simp only[zz];try omega;done) only[↓reduceIte,go_sem,e1,e5]
   refine kD ⟨rfl,.inl ⟨rfl,by simp(disch:=first|omega|simp only[zz];try omega;done) only[↓reduceIte,go_sem,Vs],?_⟩⟩
   simp(disch:=first|omega|simp only[zz];try omega;done) only[↓reduceIte,go_sem,e5]
   exact hK
  ·obtain⟨L,hL⟩:=kJ (lX ws.reverse)
   rw[<-hL]at w1 w7 w8 hil hrev e5
   obtain⟨u2,hu2⟩:=kJ (α:=U) λz=>if z=b then 0 else u' z
   rw[nM,aZ]at w5 w7
   obtain⟨t,ht⟩:=kJ ((sO h' b 0 c).drop L.length)
   have hcl':(sO h' b 0 c).length=c:=by unfold sO;simp
   have htake:(sO h' b 0 c).take L.length=lT L:=by
    refine bW λi=> ?_
    unfold lT
    rw[bV,aR]
    by_cases hi:i<L.length
    ·rw[ay hi,aL hi,bH]
     have:=w8 i L[i] (by simp [hi])
     rw[nM,aZ,lD,oV]at this
     unfold sO
     rw[aR,bT (by omega),bH,bY]
     simpa using this
    ·rw[ah hi,aW (by omega)];rfl
   have Bb:kV u2 h' b (lT L++t):=by
    rw[<-htake,ht,dC]
    refine⟨w4,by rw[w5,hcl'],w6,by rw[hu2];simp,λi z hz=> ?_⟩
    have hi:=(aJ.1 hz).1
    rw[hcl']at hi
    unfold sO at hz
    rw[aR,bT hi,bH,bY]at hz
    exact bu hz
   simp(disch:=first|omega|simp only[zz];try omega;done) only[↓reduceIte,go_sem,e1,e5]
   refine kD ⟨rfl,.inr ⟨u2,b,c,L,t,rfl,by omega,Bb,λh3 s3 B3=>⟨kY,?_⟩⟩⟩
   have hK:=hK (λz=>if z=b then L.length else u' z) h3 (.slice (some ⟨b,0,none⟩) L.length c) ⟨⟨?_,?_,?_,?_⟩,?_⟩ ?_
   ·simp(disch:=first|omega|simp only[zz];try omega;done) only[↓reduceIte,go_sem,e5]
    exact hK
   ·exact aY st.ge.sz s3.ge.sz
   ·intro z hz
    rw[ah (by omega)]
    exact st.ge.up z hz
   ·intro z hz
    have a1:=st.ge.hs z hz
    have a2:=s3.ge.hs z (bM hz st.ge.sz)
    exact⟨a2.1.trans a1.1,a2.2.trans a1.2⟩
   ·intro z hz o ho
    have:=(s3.same z (bM hz st.ge.sz) (by omega)).1
    rw[<-st.ge.cl z hz o ho]
    unfold Go.Ev.hv Go.Ev.hc
    rw[this]
   ·intro z hz _
    have a1:=st.same z hz (λq=>q)
    have a2:=s3.same z (bM hz st.ge.sz) (by omega)
    exact⟨a2.1.trans a1.1,by rw[ah (by omega)];exact a1.2⟩
   ·have hLr:L.reverse=lX ws:=hrev
    have hlen:(lX ws).length=L.length:=by rw[<-hLr,gP]
    refine⟨_,_,_,rfl,hlen.symm,w1,w2,(λq=>nomatch q),λ_=>⟨b,0,rfl,B3.1,?_,?_,λi z hz=> ?_⟩⟩
    ·show 0+(lX ws).length*Rep.sz Int<=if b=b then L.length else u' b
     rw[ay rfl,nM,aZ,hlen];omega
    ·rw[B3.2.1,aN,nM,aZ,hlen]
     simp only[lT,aQ,gP];omega
    ·have hi:=(aJ.1 hz).1
     rw[nM,aZ,bY,lD,oV]
     have:=B3.2.2.2.2 i (.int .i64 z) (by
      rw[bi (by simp only[lT,aQ,gP];omega)]
      unfold lT
      rw[aR,hLr,hz];rfl)
     rw[this]
 ·obtain⟨qb,qo,rfl,hqb,hqu,hqz,hqr⟩:=(iv.mono st.ge).row k _ hrow
  rw[oL]at hqr
  obtain⟨xv,xw,hqr,-,-⟩:=hqr
  simp only[rF,qR,aG,aP]at hqr hqu hqz
  obtain⟨-,q1,-⟩:=hqr
  rw[Fu.2]at q1
  obtain⟨va',vc',rfl,-,-⟩:=ow.sl
  simp(disch:=first|omega|simp only[zz];try omega;done) only[↓reduceIte,go_sem,e1,e5,af (show(0:Int)<(k:Int) by omega)]
  refine kK (by simp only[]) ow (x:=(k:Int)) (by rw[lD]) rfl rfl (by omega) (by omega) λa8 n8 c8 u8 h8 o8 s8 hO8=>⟨(λp q=>nomatch q),?_⟩
  have B8:=B.step s8 λq=>by have:=ow.ge q;omega
  have q18:hv h8 qb (qo+k*11+1)= .int .i64 w:=by
   rw[<-q1]
   exact s8.ge.cl qb hqb _ (by omega)
  have hqz8:qo+k*11+11<=hsz h8 qb:=by rw[(s8.ge.hs qb hqb).1];exact hqz
  have B81:=B8.1
  simp(disch:=first|omega|simp only[zz];try omega;done) only[↓reduceIte,go_sem,e1,e2,B8.at,B8.2.1,af (show(0:Int)<=(k:Int) by omega),af (show(k:Int)<(N.length:Nat) by omega),q18]
  refine⟨w,?_,hlt⟩
  rw[hI]
  exact⟨u8,w,cs2,ws2,k::tl,.slice a8 n8 c8,by simp [kF],by simp [kF,e2],by simp [kF],rfl,pt2,by rw[hws];simp,st.own s8 λb q=>by have:=ow.ge q;omega,B8,by
   have e:lX (k::tl).reverse=lX tl.reverse++[(k:Int)]:=by unfold lX;simp
   rw[e];exact o8⟩
end Go.Proofs.Z
namespace Go.Proofs.Z
open Go Go.Ev Edict
variable {vs:List Value} {h:H} {K:Value->H->Prop} {KP:List PanicEntry->H->Prop}
def Wz(vs:List Value)(h:H)(K:Value->H->Prop):Prop:= ∃(u:U) (q:pK) (v:Value),vs=[.agg #[.int .i64 q.1,v]]/\kM u h v (lJ q).2/\sN q/\ ∀u' h',kG S0 u h u' h'->K (.bool true) h'
theorem Ur(hC:Wz vs h K):ma Tryz.prog 70 vs h K KP:=by
 obtain⟨u,q,v,rfl,iv,hq,hK⟩:=hC
 refine kP 274877922623 [(none,(.t 2))] (G:=(λ_ _ _ _ _=>False)) (λ_ _ _ _ _ h=>h.elim) Tryz.func70 (by kernel_rfl) (by conv=>lhs;cbv;try simp only[mF]) ?_
 obtain⟨l,hl⟩:=kJ ((lJ q).2)
 rw[<-hl]at iv
 have hle:l=q.2.map (mW q.2):=hl
 have hlen:l.length=q.2.length:=by rw[hle,aQ]
 have h8:=hq.2.1
 obtain⟨va,vc,rfl,-,-⟩:=iv.sl
 obtain⟨h1,u1,hh1,zh1,p1,B1⟩:=kL u h [.int .i64 q.1,.slice va l.length vc] 165
 obtain⟨b1,hb1⟩:=kJ h.size
 rw[<-hb1]at B1
 have B11:=B1.1
 have hq0:=hq.1
 simp(disch:=first|omega|simp only[zz];try omega;done) only[↓reduceIte,go_sem,<-hh1,<-hb1,B1.at,B1.2.1,au (show¬q.1<0 by omega)]
 have iv1:=iv.mono p1.ge
 obtain⟨I,hI⟩:=kJ (α:=Nat->lm->H->Prop) λk σ h'=>σ 1= .pointer (some ⟨b1,0,none⟩)/\σ 10= .slice va l.length vc/\σ 11= .int .i64 (l.length:Nat)/\σ 12= .int .i64 k/\k<=l.length/\h'=h1
 refine kH I (λj=>l.length - j) 0 (by rw[hI];exact⟨by simp [kF],by simp [kF],by simp [kF],by simp [kF],by omega,rfl⟩) ?_
 intro k σ h' hi
 rw[hI]at hi
 obtain⟨e1,e10,e11,e12,hk,rfl⟩:=hi
 by_cases hlt:k<l.length
 case neg=>
  simp(disch:=first|omega|simp only[zz];try omega;done) only[↓reduceIte,go_sem,e11,e12,au (show¬(k:Int)<(l.length:Nat) by omega)]
  exact hK _ _ p1
 obtain⟨y,hy⟩: ∃y,q.2[k]? =some y:=⟨q.2[k]'(by omega),by rw[aL]⟩
 have hc:l[k]? =some (mW q.2 y):=by rw[hle,aR,hy];rfl
 obtain⟨pb,po,rfl,hpb,hpu,hpz,hpr⟩:=iv1.row k _ hc
 rw[lD]at hpr
 simp only[nM,oV,aG,aP,aZ]at hpr hpu hpz
 obtain⟨yb,yn⟩:=y
 have hy0:=hq.2.2 _ (aI hy)
 simp only at hy0
 cases yb with
 |false=>
  have e:mW q.2 (false,yn)=yn:=rfl
  rw[e]at hpr
  simp(disch:=first|omega|simp only[zz];try omega;done) only[↓reduceIte,go_sem,aZ,e1,e10,e11,e12,af (show(k:Int)<(l.length:Nat) by omega),af (show(0:Int)<=(k:Int) by omega),hpr,B1.at,au (show¬yn<0 by omega)]
  exact⟨k+1,by rw[hI];exact⟨by simp [kF,e1],by simp [kF,e10],by simp [kF,e11],by simp [kF],hlt,rfl⟩,by omega⟩
 |true=>
  obtain⟨j,hj⟩:=kJ (mq q.2 yn)
  have e:mW q.2 (true,yn)= -1 - (j:Int):=by rw[hj];rfl
  rw[e]at hpr
  have hjk:j<=k:=by rw[hj];exact xC hy rfl rfl
  obtain⟨hjl,t,t1,t2,t3⟩:=xB (l:=q.2) (n:=yn) ⟨_,aI hy,rfl,rfl⟩
  rw[<-hj]at hjl t1
  have hcj:l[j]? =some (-1 - (j:Int)):=by
   rw[hle,aR,t1]
   obtain⟨tb,tn⟩:=t
   simp only at t2 t3
   rw[t2,t3,bH,hj];rfl
  obtain⟨qb,qo,qe,hqb,hqu,hqz,hqr⟩:=iv1.row j _ hcj
  cases qe
  rw[lD]at hqr
  simp only[nM,oV,aG,aP,aZ]at hqr hqu hqz
  have e2:(-1:Int) - (-1 - (j:Int))=(j:Int):=by omega
  simp(disch:=first|omega|simp only[zz];try omega;done) only[↓reduceIte,go_sem,aZ,e1,e10,e11,e12,af (show(k:Int)<(l.length:Nat) by omega),af (show(0:Int)<=(k:Int) by omega),hpr,hqr,B1.at,B1.2.1,e2,af (show(-1:Int) - (j:Int)<0 by omega),au (show¬(j:Int)<0 by omega),au (show¬(k:Int)<(j:Int) by omega),af (show(j:Int)<(l.length:Nat) by omega),af (show(0:Int)<=(j:Int) by omega)]
  exact⟨k+1,by rw[hI];exact⟨by simp [kF,e1],by simp [kF,e10],by simp [kF,e11],by simp [kF],hlt,rfl⟩,by omega⟩
def QC(vs:List Value)(h:H)(K:Value->H->Prop):Prop:= ∃(u:U) (va vn ve:Value) (A:List lY) (N:List lG) (W:List (List Nat)) (E:List Nat),vs=[.agg #[va,vn,ve]]/\kM u h va A/\kM u h vn N/\mg ve=true/\DL A N W E/\ ∀u' h',kG S0 u h u' h'->K (.bool true) h'
def Us:mG:=λf vs h K _=>(f=70/\Wz vs h K)\/(f=71/\abG vs h K)
theorem Jw:nz Tryz.prog Us:=mK Ur (qd Ii)
theorem QE(hC:QC vs h K):ma Tryz.prog 29 vs h K KP:=by
 obtain⟨u,va,vn,ve,A,N,W,E,rfl,iA,iN,oke,P,hK⟩:=hC
 refine kP 41103496347559216516463327 [(none,(.t 2))] Jw Tryz.func29 (by kernel_rfl) (by conv=>lhs;cbv;try simp only[mF]) ?_
 obtain⟨aa,ac,rfl,hac,-⟩:=iA.sl
 obtain⟨na,nc,rfl,-,-⟩:=iN.sl
 have hA:=P.al
 have hN:=P.nl
 obtain⟨h1,u1,hh1,zh1,p1,B1⟩:=kL u h [.slice aa A.length ac,.slice na N.length nc,ve] 26
 obtain⟨b1,hb1⟩:=kJ h.size
 rw[<-hb1]at B1
 have B11:=B1.1
 simp(disch:=first|omega|simp only[zz];try omega;done) only[↓reduceIte,go_sem,<-hh1,<-hb1,B1.at,B1.2.1]
 obtain⟨I,hI⟩:=kJ (α:=Nat->lm->H->Prop) λk σ h'=> ∃u':U,σ 1= .pointer (some ⟨b1,0,none⟩)/\σ 11= .slice aa A.length ac/\σ 12= .int .i64 (A.length:Nat)/\σ 13= .int .i64 k/\k<=A.length/\kG S0 u h u' h'/\kV u' h' b1 [.slice aa A.length ac,.slice na N.length nc,ve]
 refine kH I (λj=>A.length - j) 0 (by rw[hI];exact⟨u1,by simp [kF],by simp [kF],by simp [kF],by simp [kF],by omega,p1,B1⟩) ?_
 clear hh1 B1 B11
 intro k σ h' hi
 rw[hI]at hi
 obtain⟨u',e1,e11,e12,e13,hk,st,B⟩:=hi
 have B0:=B.1
 by_cases hlt:k<A.length
 case pos=>
  obtain⟨s,hs⟩:=uu hlt
  obtain⟨q,hq,hsq⟩:=P.shp s (aI hs)
  have hs8:s.2.length<=8:=by rw[hsq];unfold lJ;rw[aQ];exact hq.2.1
  obtain⟨pb,po,rfl,hpb,hpu,hpz,hpr⟩:=(iA.mono st.ge).row k s hs
  rw[Ae]at hpr
  simp only[Ig,qX,aG,aP]at hpr hpu hpz
  obtain⟨sv,⟨q0,q1⟩,is⟩:=hpr
  obtain⟨sx,sc,rfl,-,-⟩:=is.sl
  have e11':σ 11= .slice (some ⟨pb,po,none⟩) A.length ac:=e11
  obtain⟨h5',h6,u6,hh5,hh6,B5,B6,s6,hz6⟩:=kZ u' h' [.int .i64 0,.slice none 0 0] [.int .i64 s.1,.slice sx s.2.length sc] 165 rfl
  have B51:=B5.1
  have B61:=B6.1
  obtain⟨bb,hbb⟩:=kJ h'.size
  rw[<-hbb]at B5 B51 B6 B61 hh6
  simp(disch:=first|omega|simp only[zz];try omega;done) only[↓reduceIte,go_sem,e11',e12,e13,af (show(k:Int)<(A.length:Nat) by omega),q0,q1,<-hbb,<-hh5,<-hh6,B5.2.1,B5.2.2.1,B6.at,B6.2.1]
  refine kD (.inl ⟨rfl,u6,q,_,by rw[hsq];rfl,by rw[<-hsq];exact is.mono s6.ge,hq,λu7 h7 s7=>⟨(λp q=>nomatch q),?_⟩⟩)
  have B7:=(B.sZ s6).sZ s7
  have C7:=B6.sZ s7
  have st7:=(st.tZ s6).tZ s7
  have is7:=(is.mono s6.ge).mono s7.ge
  have B71:=B7.1
  have C71:=C7.1
  simp(disch:=first|omega|simp only[zz];try omega;done) only[↓reduceIte,go_sem,C7.at,C7.2.1,B7.at,B7.2.1,e1,au (show¬(8:Int)<s.2.length by omega)]
  refine⟨by omega,?_⟩
  obtain⟨J,hJ⟩:=kJ (α:=Nat->lm->H->Prop) λj σ h'=> ∃u':U,σ 1= .pointer (some ⟨b1,0,none⟩)/\σ 4= .pointer (some ⟨bb,0,none⟩)/\σ 11= .slice (some ⟨pb,po,none⟩) A.length ac/\σ 12= .int .i64 (A.length:Nat)/\σ 13= .int .i64 k/\σ 30= .slice (some ⟨pb,po,none⟩) k ac/\σ 31= .int .i64 k/\σ 32= .int .i64 j/\j<=k/\kG S0 u h u' h'/\kV u' h' b1 [.slice (some ⟨pb,po,none⟩) A.length ac,.slice na N.length nc,ve]/\kV u' h' bb [.int .i64 s.1,.slice sx s.2.length sc]/\kM u' h' (.slice sx s.2.length sc) s.2
  refine kH J (λj=>k - j) 0 (by rw[hJ];exact⟨u7,by simp [kF,e1],by simp [kF],by simp [kF,e11'],by simp [kF,e12],by simp [kF,e13],by simp [kF],by simp [kF],by simp [kF],by omega,st7,B7,C7,is7⟩) ?_
  clear hh5 hh6 B5 B6 s6 s7 B7 C7 B51 B61 B71 C71 e1 e11 e11' e12 e13 B q0 q1 is is7 st7 st
  intro j σ h' hj
  rw[hJ]at hj
  obtain⟨u',e1,e4,e11,e12,e13,e30,e31,e32,hjk,st,B,C,is⟩:=hj
  have B0:=B.1
  have C0:=C.1
  by_cases hlt2:j<k
  case neg=>
   simp(disch:=first|omega|simp only[zz];try omega;done) only[↓reduceIte,go_sem,e13,e31,e32,au (show¬(j:Int)<(k:Nat) by omega)]
   refine⟨k+1,?_,by omega⟩
   rw[hI]
   exact⟨u',by simp [kF,e1],by simp [kF,e11],by simp [kF,e12],by simp [kF],hlt,st,B⟩
  obtain⟨y,hy⟩: ∃y,A[j]? =some y:=⟨A[j]'(by omega),by rw[aL]⟩
  have hys:y≠s:=λe=>by
   rw[e,<-hs]at hy
   have:=(jm (by omega) P.ad).1 hy
   omega
  obtain⟨q2,hq2,hyq⟩:=P.shp y (aI hy)
  have hy8:y.2.length<=8:=by rw[hyq];unfold lJ;rw[aQ];exact hq2.2.1
  obtain⟨qb,qo,qe,hqb,hqu,hqz,hqr⟩:=(iA.mono st.ge).row j y hy
  cases qe
  rw[Ae]at hqr
  simp only[Ig,qX,aG,aP]at hqr hqu hqz
  obtain⟨yv,⟨w0,w1⟩,iy⟩:=hqr
  obtain⟨yx,yc,rfl,-,-⟩:=iy.sl
  obtain⟨h5',h6,u6,hh5,hh6,B5,B6,s6,hz6⟩:=kZ u' h' [.int .i64 0,.slice none 0 0] [.int .i64 y.1,.slice yx y.2.length yc] 165 rfl
  have B51:=B5.1
  have B61:=B6.1
  obtain⟨qq,hqq⟩:=kJ h'.size
  rw[<-hqq]at B5 B51 B6 B61 hh6
  have B7:=B.sZ s6
  have C7:=C.sZ s6
  have st7:=st.tZ s6
  have is7:=is.mono s6.ge
  have B71:=B7.1
  have C71:=C7.1
  have go: ∀(σ'':lm),σ'' 32= .int .i64 ((j:Int)+1)->(∀i,i<32->i≠6->σ'' i=σ i)-> ∃x,J x σ'' h6/\k - x<k - j:=by
   intro σ'' g32 gσ
   refine⟨j+1,?_,by omega⟩
   rw[hJ]
   exact⟨u6,(gσ 1 (by omega) (by omega)).trans e1,(gσ 4 (by omega) (by omega)).trans e4,(gσ 11 (by omega) (by omega)).trans e11,(gσ 12 (by omega) (by omega)).trans e12,(gσ 13 (by omega) (by omega)).trans e13,(gσ 30 (by omega) (by omega)).trans e30,(gσ 31 (by omega) (by omega)).trans e31,by rw[g32];simp,hlt2,st7,B7,C7,is7⟩
  by_cases h1:y.1=s.1
  ·rw[h1]at w0 hh6 B6
   simp(disch:=first|omega|simp only[zz];try omega;done) only[↓reduceIte,go_sem,e4,e30,e31,e32,af (show(j:Int)<(k:Nat) by omega),w0,w1,<-hqq,<-hh5,<-hh6,B5.2.1,B5.2.2.1,B6.at,B6.2.1,C7.at,C7.2.1]
   refine kD (.inr ⟨rfl,u6,_,_,y.2,s.2,rfl,iy.mono s6.ge,is7,by omega,by simp(disch:=first|omega|simp only[zz];try omega;done) only[↓reduceIte,go_sem,Vs],?_⟩)
   have h2: ¬y.2=s.2:=λe=>hys (Prod.ext h1 e)
   simp(disch:=first|omega|simp only[zz];try omega;done) only[↓reduceIte,go_sem,au h2,e32]
   exact go _ (by simp [kF]) (λi z1 z2=>by simp only[kF];repeat rw[ah (by omega)])
  ·simp(disch:=first|omega|simp only[zz];try omega;done) only[↓reduceIte,go_sem,e4,e30,e31,e32,af (show(j:Int)<(k:Nat) by omega),w0,w1,<-hqq,<-hh5,<-hh6,B5.2.1,B5.2.2.1,B6.at,B6.2.1,C7.at,C7.2.1,au h1]
   exact go _ (by simp [kF]) (λi z1 z2=>by simp only[kF];repeat rw[ah (by omega)])
 have hkA:k=A.length:=by omega
 simp(disch:=first|omega|simp only[zz];try omega;done) only[↓reduceIte,go_sem,e1,e12,e13,au (show¬(k:Int)<(A.length:Nat) by omega),B.at,B.2.1]
 clear hI I
 -- the nodes need the memories in their order
 obtain⟨I,hI⟩:=kJ (α:=Nat->lm->H->Prop) λk σ h'=> ∃(u':U) (x:Nat),σ 1= .pointer (some ⟨b1,0,none⟩)/\σ 7= .int .i64 x/\σ 51= .slice na N.length nc/\σ 52= .int .i64 (N.length:Nat)/\σ 53= .int .i64 k/\k<=N.length/\x<=A.length/\yg A.length x (N.drop k)=some A.length/\kG S0 u h u' h'/\kV u' h' b1 [.slice aa A.length ac,.slice na N.length nc,ve]
 refine kH I (λj=>N.length - j) 0 (by rw[hI];exact⟨u',0,by simp [kF,e1],by simp [kF],by simp [kF],by simp [kF],by simp [kF],by omega,by omega,P.use,st,B⟩) ?_
 clear B B0 e1 e11 e12 e13 st hkA hk hlt
 intro k σ h' hi
 rw[hI]at hi
 obtain⟨u',x,e1,e7,e51,e52,e53,hk,hx,hu,st,B⟩:=hi
 have B0:=B.1
 by_cases hlt:k<N.length
 case neg=>
  have hxe:x=A.length:=by
   rw[dJ (by omega),yg]at hu
   exact bu hu
  have hK:=hK u' h' st
  simp(disch:=first|omega|simp only[zz];try omega;done) only[↓reduceIte,go_sem,e1,e7,e52,e53,au (show¬(k:Int)<(N.length:Nat) by omega),B.at,B.2.1,af (show(x:Int)=(A.length:Nat) by omega)]
  exact hK
 obtain⟨n,hn⟩:=uu hlt
 have hd:N.drop k=n::N.drop (k+1):=by
  rw[bK hlt]
  rw[aL hlt]at hn
  rw[bu hn]
 rw[hd,yg]at hu
 obtain⟨pb,po,rfl,hpb,hpu,hpz,hpr⟩:=(iN.mono st.ge).row k n hn
 rw[oL]at hpr
 obtain⟨xv,xw,hpr,ixv,ixw⟩:=hpr
 obtain⟨xa,xc,rfl,-,-⟩:=ixv.sl
 obtain⟨ya,yc,rfl,-,-⟩:=ixw.sl
 simp only[rF,qR,aG,aP]at hpr hpu hpz
 obtain⟨q0,q1,q2,q3,q4,q5,q6,q7,q8,q9,q10⟩:=hpr
 have e51':σ 51= .slice (some ⟨pb,po,none⟩) N.length nc:=e51
 obtain⟨h5',h6,u6,hh5,hh6,B5,B6,s6,hz6⟩:=kZ u' h' [.int .i64 0,.int .i64 0,.int .i64 0,.slice none 0 0,.slice none 0 0,.int .i64 0,.bool false,.int .i64 0,.bool false,.int .i64 0,.int .i64 0] (qM n (.slice xa n.2.2.2.1.length xc) (.slice ya n.2.2.2.2.1.length yc)) 36 rfl
 have B51:=B5.1
 have B61:=B6.1
 obtain⟨bb,hbb⟩:=kJ h'.size
 rw[<-hbb]at B5 B51 B6 B61 hh6
 simp only[qM]at hh6 B6
 have B7:=B.sZ s6
 have st7:=st.tZ s6
 have B71:=B7.1
 have go: ∀(σ'':lm) (z:Nat),yg A.length z (N.drop (k+1))=some A.length->z<=A.length->σ'' 7= .int .i64 z->σ'' 53= .int .i64 ((k:Int)+1)->(∀i,i<53->i≠7->i≠9->σ'' i=σ i)-> ∃j,I j σ'' h6/\N.length - j<N.length - k:=by
  intro σ'' z hz hz2 g7 g53 gσ
  refine⟨k+1,?_,by omega⟩
  rw[hI]
  exact⟨u6,z,(gσ 1 (by omega) (by omega) (by omega)).trans e1,g7,(gσ 51 (by omega) (by omega) (by omega)).trans e51,(gσ 52 (by omega) (by omega) (by omega)).trans e52,by rw[g53];simp,hlt,hz2,hz,st7,B7⟩
 by_cases hk13:n.1=1\/n.1=3
 ·rw[ay hk13]at hu
  split at hu
  ·cases hu
  rename_i hnot
  by_cases h1:n.1=1
  ·by_cases hxe:n.2.2.1=(x:Int)
   ·rw[ay hxe]at hu
    simp(disch:=first|omega|simp only[zz];try omega;done) only[↓reduceIte,go_sem,e1,e7,e51',e52,e53,af (show(k:Int)<(N.length:Nat) by omega),q0,q1,q2,q3,q4,q5,q6,q7,q8,q9,q10,<-hbb,<-hh5,<-hh6,B5.2.1,B5.2.2.1,B6.at,B6.2.1,B7.at,B7.2.1,af h1,au (show¬n.1=3 by omega),au (show¬n.2.2.1<0 by omega),au (show¬(x:Int)<n.2.2.1 by omega),au (show¬(A.length:Int)<=n.2.2.1 by omega),af hxe]
    exact go _ (x+1) hu (by omega) (by simp [kF]) (by simp [kF]) (λi z1 z2 z3=>by simp only[kF];repeat rw[ah (by omega)])
   ·rw[ah hxe]at hu
    simp(disch:=first|omega|simp only[zz];try omega;done) only[↓reduceIte,go_sem,e1,e7,e51',e52,e53,af (show(k:Int)<(N.length:Nat) by omega),q0,q1,q2,q3,q4,q5,q6,q7,q8,q9,q10,<-hbb,<-hh5,<-hh6,B5.2.1,B5.2.2.1,B6.at,B6.2.1,B7.at,B7.2.1,af h1,au (show¬n.1=3 by omega),au (show¬n.2.2.1<0 by omega),au (show¬(x:Int)<n.2.2.1 by omega),au (show¬(A.length:Int)<=n.2.2.1 by omega),au hxe]
    exact go _ x hu hx (by simp [kF,e7]) (by simp [kF]) (λi z1 z2 z3=>by simp only[kF];repeat rw[ah (by omega)])
  ·by_cases hxe:n.2.2.1=(x:Int)
   ·rw[ay hxe]at hu
    simp(disch:=first|omega|simp only[zz];try omega;done) only[↓reduceIte,go_sem,e1,e7,e51',e52,e53,af (show(k:Int)<(N.length:Nat) by omega),q0,q1,q2,q3,q4,q5,q6,q7,q8,q9,q10,<-hbb,<-hh5,<-hh6,B5.2.1,B5.2.2.1,B6.at,B6.2.1,B7.at,B7.2.1,au h1,af (show n.1=3 by omega),au (show¬n.2.2.1<0 by omega),au (show¬(x:Int)<n.2.2.1 by omega),au (show¬(A.length:Int)<=n.2.2.1 by omega),af hxe]
    exact go _ (x+1) hu (by omega) (by simp [kF]) (by simp [kF]) (λi z1 z2 z3=>by simp only[kF];repeat rw[ah (by omega)])
   ·rw[ah hxe]at hu
    simp(disch:=first|omega|simp only[zz];try omega;done) only[↓reduceIte,go_sem,e1,e7,e51',e52,e53,af (show(k:Int)<(N.length:Nat) by omega),q0,q1,q2,q3,q4,q5,q6,q7,q8,q9,q10,<-hbb,<-hh5,<-hh6,B5.2.1,B5.2.2.1,B6.at,B6.2.1,B7.at,B7.2.1,au h1,af (show n.1=3 by omega),au (show¬n.2.2.1<0 by omega),au (show¬(x:Int)<n.2.2.1 by omega),au (show¬(A.length:Int)<=n.2.2.1 by omega),au hxe]
    exact go _ x hu hx (by simp [kF,e7]) (by simp [kF]) (λi z1 z2 z3=>by simp only[kF];repeat rw[ah (by omega)])
 ·rw[ah hk13]at hu
  simp(disch:=first|omega|simp only[zz];try omega;done) only[↓reduceIte,go_sem,e51',e52,e53,af (show(k:Int)<(N.length:Nat) by omega),q0,q1,q2,q3,q4,q5,q6,q7,q8,q9,q10,<-hbb,<-hh5,<-hh6,B5.2.1,B5.2.2.1,B6.at,B6.2.1,au (show¬n.1=1 from λq=>hk13 (.inl q)),au (show¬n.1=3 from λq=>hk13 (.inr q))]
  exact go _ x hu hx (by simp [kF,e7]) (by simp [kF]) (λi z1 z2 z3=>by simp only[kF];repeat rw[ah (by omega)])
end Go.Proofs.Z
namespace Edict
open Go.Ev
variable {x w:Int} {l:List pW} {i:Nat} {s:pW} {M:List Int}
theorem uV{w:Int}{l:List pW}: ∀{m:List pW} {i:Nat},(oh w l i m).Pairwise λa b=>a.1<b.1
 |[],i=> .nil
 |s::m,i=>by
  unfold oh
  split
  ·refine ig.2 ⟨λb hb=> ?_,uV⟩
   obtain⟨x,y⟩:=b
   obtain⟨k,t,-,-,-,e,-⟩:=tC.1 hb
   simp only[e];omega
  ·exact uV
theorem Bo{w:Int}{l:List pW}: ∀{m:List pW} {i:Nat},(qI w l i m).Pairwise (· < ·)
 |[],i=> .nil
 |s::m,i=>by
  unfold qI
  split
  ·refine ig.2 ⟨λb hb=> ?_,Bo⟩
   obtain⟨k,t,-,-,-,e⟩:=Ai.1 hb
   omega
  ·exact Bo
theorem Ab{x:Int×Int}(h:x∈ou w l): ∃(k:Nat) (s:pW),l[k]? =some s/\CW l k s=true/\s.2<w/\x.1=(k:Int)/\x.2=s.2:=by
 obtain⟨a,b⟩:=x
 obtain⟨k,s,h1,h2,h3,h4,h5⟩:=tC.1 (show(a,b)∈oh w l 0 l from h)
 exact⟨k,s,h1,by simpa using h2,h3,by simpa using h4,h5⟩
theorem Ng(h:x∈qA w l): ∃(k:Nat) (s:pW),l[k]? =some s/\CW l k s=true/\ ¬s.2<w/\x=(k:Int):=by
 obtain⟨k,s,h1,h2,h3,h4⟩:=Ai.1 (show x∈qI w l 0 l from h)
 exact⟨k,s,h1,by simpa using h2,h3,by simpa using h4⟩
theorem Uo:(ou w l).Pairwise λa b=>a.2≠b.2:=by
 refine(uV (w:=w) (l:=l) (m:=l) (i:=0)).imp_of_mem fun{a b} ha hb hlt e=> ?_
 obtain⟨k,s,h1,h2,-,h4,h5⟩:=Ab (show a∈ou w l from ha)
 obtain⟨j,t,k1,k2,-,k4,k5⟩:=Ab (show b∈ou w l from hb)
 unfold CW at h2 k2
 simp only[bA,bf]at h2 k2
 rw[<-h5]at h2
 rw[<-k5,<-e]at k2
 omega
theorem Yt(h:l[i]? =some s):((i:Int)∈(ou w l).map (·.1)++qA w l)↔CW l i s=true:=by
 rw[bG]
 constructor
 ·rintro (q|q)
  ·obtain⟨x,hx,e⟩:=bq.1 q
   obtain⟨k,t,h1,h2,-,h4,-⟩:=Ab hx
   have:k=i:=by omega
   subst this
   rw[h]at h1;cases h1;exact h2
  ·obtain⟨k,t,h1,h2,-,h4⟩:=Ng q
   have:k=i:=by omega
   subst this
   rw[h]at h1;cases h1;exact h2
 ·intro q
  by_cases hw:s.2<w
  ·exact .inl (bq.2 ⟨((i:Int),s.2),tC.2 ⟨i,s,h,by simpa using q,hw,by simp,rfl⟩,rfl⟩)
  ·exact .inr (Ai.2 ⟨i,s,h,by simpa using q,hw,by simp⟩)
theorem Yu(h:x∈qA w l):x ∉ (ou w l).map (·.1):=λq=>by
 obtain⟨y,hy,e⟩:=bq.1 q
 obtain⟨k,t,h1,h2,h3,h4,-⟩:=Ab hy
 obtain⟨j,s,k1,k2,k3,k4⟩:=Ng h
 have:k=j:=by omega
 subst this
 rw[h1]at k1;cases k1
 exact k3 h3
theorem Uq(h0:0<=s.2):(mW l s= -1 - (i:Int))↔CW l i s=true:=by
 obtain⟨b,n⟩:=s
 cases b with
 |false=>unfold mW CW;simp at h0 ⊢;omega
 |true=>unfold mW CW;simp;omega
def tmF(M:List Int):List Int:=(List.range 8).map fun(i:Nat)=>if(i:Int)∈M then 1 else 0
def hdF(V:List Int):List Bool:=(List.range 16).map fun(i:Nat)=>decide ((i:Int)∈V)
theorem Cx(h:i<8):(tmF M)[i]? =some (if(i:Int)∈M then 1 else 0):=by unfold tmF;rw[aR,bT h];rfl
theorem Nh(h:i<16):(hdF M)[i]? =some (decide ((i:Int)∈M)):=by unfold hdF;rw[aR,bT h];rfl
theorem Cy:(tmF M).length=8:=rfl
theorem FJ:(hdF M).length=16:=rfl
theorem QB(h:i<8):tmF (M++[(i:Int)])=(tmF M).set i 1:=by
 refine bW λx=> ?_
 by_cases hx:x<8
 ·rw[Cx hx,fA,Cy,Cx hx]
  by_cases e:i=x
  ·subst e;simp [h]
  ·rw[ah e]
   have e2: ¬(x:Int)=(i:Int):=by omega
   simp [e2]
 ·rw[aW (by rw[Cy];omega),aW (by rw[dS,Cy];omega)]
theorem abx(h:i<16):hdF (M++[(i:Int)])=(hdF M).set i true:=by
 refine bW λx=> ?_
 by_cases hx:x<16
 ·rw[Nh hx,fA,FJ,Nh hx]
  by_cases e:i=x
  ·subst e;simp [h]
  ·rw[ah e]
   have e2: ¬(x:Int)=(i:Int):=by omega
   simp [e2]
 ·rw[aW (by rw[FJ];omega),aW (by rw[dS,FJ];omega)]
end Edict
namespace Edict
variable {α:Type} {R:α->α->Prop} {l:List α} {k:Nat} {x:α}
theorem Nf(h:l.Pairwise R)(hx:l[k]? =some x): ∀a∈l.take k,R a x:=λa ha=>by
 obtain⟨hk,e⟩:=aJ.1 hx
 rw[<-dC k l,fD]at h
 exact h.2.2 a ha x (by rw[bK hk,e];simp)
theorem Wx(h:l.Pairwise R)(hx:l[k]? =some x): ∀b∈l.drop (k+1),R x b:=λb hb=>by
 obtain⟨hk,e⟩:=aJ.1 hx
 rw[<-dC k l,fD,bK hk,e,ig]at h
 exact h.2.1.1 b hb
end Edict
namespace Go.Ev
open Go Rep Edict
variable {x:Int} {i:Nat} {l:List Int}
theorem Wy{u:U}{h:H}{x:Int×Int}{cs:List Value}:rep u h x cs=(cs=[.int .i64 x.1,.int .i64 x.2]):=by simp [mO,lD]
theorem abu:sz (Int×Int)=2:=rfl
def Un(l:List Bool):List Value:=l.map λx=> .bool x
theorem xu(h:l[i]? =some x):(lT l)[i]? =some (.int .i64 x):=by unfold lT;rw[aR,h];rfl
theorem abv{l:List Bool}{x:Bool}(h:l[i]? =some x):(Un l)[i]? =some (.bool x):=by unfold Un;rw[aR,h];rfl
theorem DK:lT (l.set i x)=(lT l).set i (.int .i64 x):=by unfold lT;rw[iV]
theorem abw{l:List Bool}{x:Bool}:Un (l.set i x)=(Un l).set i (.bool x):=by unfold Un;rw[iV]
end Go.Ev
namespace Go.Proofs.Z
open Go Go.Ev Edict
def Ic(vs:List Value)(h:H)(K:Value->H->Prop):Prop:= ∃(u:U) (va vn ve v w:Value) (A:List lY) (kd ui w0:Int) (ai:Nat) (p:pK),vs=[.agg #[va,vn,ve],.agg (qM (kd,ui,(ai:Int),ou w0 p.2,qA w0 p.2,oQ,w0+(qA w0 p.2).length) v w).toArray,.int .i64 w0]/\kM u h va A/\mg vn=true/\mg ve=true/\kM u h v (ou w0 p.2)/\kM u h w (qA w0 p.2)/\A[ai]? =some (lJ p)/\A.length<=2000000/\sN p/\0<=w0/\w0+(qA w0 p.2).length<=16/\ ∀u' h',kG S0 u h u' h'->K (.bool true) h'
theorem QA{vs:List Value}{h:H}{K:Value->H->Prop}{KP:List PanicEntry->H->Prop}(hC:Ic vs h K):ma Tryz.prog 96 vs h K KP:=by
 obtain⟨u,va,vn,ve,v,w,A,kd,ui,w0,ai,p,rfl,iA,okn,oke,iv,iw,hai,hA,hp,hw0,hw16,hK⟩:=hC
 refine kP 702144000789862789746181910109696022495 [(none,(.t 6))] (G:=(λ_ _ _ _ _=>False)) (λ_ _ _ _ _ h=>h.elim) Tryz.func96 (by kernel_rfl) (by conv=>lhs;cbv;try simp only[mF]) ?_
 obtain⟨aa,ac,rfl,-,-⟩:=iA.sl
 obtain⟨vx,vc,rfl,-,-⟩:=iv.sl
 obtain⟨wx,wc,rfl,-,-⟩:=iw.sl
 have hail:=(aJ.1 hai).1
 obtain⟨h1,u1,hh1,zh1,p1,B1⟩:=kL u h [.slice aa A.length ac,vn,ve] 26
 obtain⟨b1,hb1⟩:=kJ h.size
 rw[<-hb1]at B1
 obtain⟨L,hL⟩:=kJ (ou w0 p.2)
 obtain⟨M,hM⟩:=kJ (qA w0 p.2)
 rw[<-hL]at iv
 rw[<-hM]at iw hw16
 simp only[qM,<-hL,<-hM,oQ,Jc]
 obtain⟨h2,u2,hh2,zh2,p2,N2⟩:=kL u1 h1 [.int .i64 kd,.int .i64 ui,.int .i64 ai,.slice vx L.length vc,.slice wx M.length wc,.int .i64 0,.bool false,.int .i64 0,.bool false,.int .i64 0,.int .i64 (w0+M.length)] 36
 obtain⟨b2,hb2⟩:=kJ h1.size
 rw[<-hb2]at N2
 have B2:=B1.sZ p2
 have st2:=p1.tZ p2
 have B21:=B2.1
 have N21:=N2.1
 obtain⟨pb,po,rfl,hpb,hpu,hpz,hpr⟩:=(iA.mono st2.ge).row ai _ hai
 rw[Ae]at hpr
 obtain⟨sv,hpr,is⟩:=hpr
 simp only[Ig,qX,aG,aP]at hpr hpu hpz
 obtain⟨q0,q1⟩:=hpr
 obtain⟨sx,sc,rfl,-,-⟩:=is.sl
 obtain⟨C,hC⟩:=kJ ((lJ p).2)
 rw[<-hC]at q1 is
 have hCl:C.length=p.2.length:=by rw[hC];unfold lJ;rw[aQ]
 have hp8:=hp.2.1
 have e2:(w0:Int)+(M.length:Nat)=w0+M.length:=rfl
 obtain⟨h3',u3',hh3',zh3',p3',T3'⟩:=kL u2 h2 [.int .i64 0,.int .i64 0,.int .i64 0,.int .i64 0,.int .i64 0,.int .i64 0,.int .i64 0,.int .i64 0] 126
 obtain⟨tb,htb⟩:=kJ h2.size
 rw[<-htb]at T3'
 obtain⟨h3,u3,hh3,zh3,p3,H3⟩:=kL u3' h3' [.bool false,.bool false,.bool false,.bool false,.bool false,.bool false,.bool false,.bool false,.bool false,.bool false,.bool false,.bool false,.bool false,.bool false,.bool false,.bool false] 220
 obtain⟨hb,hhb⟩:=kJ h3'.size
 rw[<-hhb]at H3
 have T3:=T3'.sZ p3
 have B3:=(B2.sZ p3').sZ p3
 have N3:=(N2.sZ p3').sZ p3
 have st3:=(st2.tZ p3').tZ p3
 have B31:=B3.1
 have N31:=N3.1
 simp(disch:=first|omega|simp only[zz];try omega;done) only[↓reduceIte,go_sem,<-hh1,<-hb1,<-hh2,<-hb2,B2.at,B2.2.1,N2.at,N2.2.1,af (show(ai:Int)<(A.length:Nat) by omega),af (show(0:Int)<=(ai:Int) by omega),q1,au (show¬(16:Int)<w0+M.length by omega),<-hh3',<-htb,<-hh3,<-hhb,N3.at,N3.2.1]
 have hLs:L.Pairwise λa b=>a.1<b.1:=by rw[hL];exact uV
 have hLv:L.Pairwise λa b=>a.2≠b.2:=by rw[hL];exact Uo
 have hLm: ∀x∈L,∃(i j:Nat),i<p.2.length/\x=((i:Int),(j:Int))/\(j:Int)<w0:=λx hx=>by
  rw[hL]at hx
  obtain⟨k,s,h1,-,h3,h4,h5⟩:=Ab hx
  have h0:=hp.2.2 s (aI h1)
  obtain⟨j,hj⟩:=iH h0
  exact⟨k,j,(aJ.1 h1).1,Prod.ext h4 (by rw[h5,hj]),by omega⟩
 have hLl:L.length<=8:=by rw[hL];exact aY xx hp8
 have hMl:M.length<=8:=by rw[hM];exact aY Ad hp8
 obtain⟨Nd,hNd⟩:=kJ (α:=List Value) ([.int .i64 kd,.int .i64 ui,.int .i64 ai,.slice vx L.length vc,.slice wx M.length wc,.int .i64 0,.bool false,.int .i64 0,.bool false,.int .i64 0,.int .i64 (w0+M.length)])
 have iv3:=iv.mono st3.ge
 obtain⟨I,hI⟩:=kJ (α:=Nat->lm->H->Prop) λk σ h'=> ∃(u':U) (last:Int),σ 2= .int .i64 w0/\σ 4= .pointer (some ⟨b2,0,none⟩)/\σ 7= .slice sx C.length sc/\σ 8= .pointer (some ⟨tb,0,none⟩)/\σ 9= .pointer (some ⟨hb,0,none⟩)/\σ 10= .int .i64 last/\σ 45= .slice vx L.length vc/\σ 46= .int .i64 (L.length:Nat)/\σ 47= .int .i64 k/\k<=L.length/\(∀x∈L.drop k,last<x.1)/\kG S0 u h u' h'/\Ge u2 h2 u' h'/\kV u' h' b2 Nd/\kV u' h' tb (lT (tmF ((L.take k).map (·.1))))/\kV u' h' hb (Un (hdF ((L.take k).map (·.2))))
 have hb0:h.size<=hb:=by rw[hhb];exact(st2.tZ p3').ge.sz
 have tb0:h.size<=tb:=by rw[htb];exact st2.ge.sz
 have hth:tb<hb:=by rw[hhb];exact T3'.1
 have hbt:b2<tb:=by rw[htb];exact N2.1
 refine kH I (λj=>L.length - j) 0 (by rw[hI];exact⟨u3,-1,by simp [kF],by simp [kF],by simp [kF],by simp [kF],by simp [kF],by simp [kF],by simp [kF],by simp [kF],by simp [kF],by omega,λx hx=>by
  obtain⟨i,j,-,rfl,-⟩:=hLm x hx
  simp only;omega,st3,p3'.ge.trans p3.ge,by rw[hNd];exact N3,T3,H3⟩) ?_
 clear hh1 hh2 hh3 hh3' B1 B2 B3 N2 N3 T3 T3' H3 B21 N21 B31 N31 iv3
 intro k σ h' hi
 rw[hI]at hi
 obtain⟨u',last,e2,e4,e7,e8,e9,e10,e45,e46,e47,hk,hlast,st,ge,Nb,T,Hb⟩:=hi
 have T1:=T.1
 have H1:=Hb.1
 have Nb1:=Nb.1
 by_cases hlt:k<L.length
 case pos=>
  obtain⟨x,hx⟩:=uu hlt
  obtain⟨i,j,hi8,hxe,hjw⟩:=hLm x (aI hx)
  have hla:=hlast x (by rw[bK hlt];rw[aL hlt]at hx;rw[bu hx];simp)
  have hni:((i:Int)) ∉ (L.take k).map (·.1):=λq=>by
   obtain⟨y,hy,e⟩:=bq.1 q
   have:=Nf hLs hx y hy
   rw[hxe]at this
   simp only at e this;omega
  have hnj:((j:Int)) ∉ (L.take k).map (·.2):=λq=>by
   obtain⟨y,hy,e⟩:=bq.1 q
   have:=Nf hLv hx y hy
   rw[hxe]at this
   simp only at e this;omega
  have hdr:=Wx hLs hx
  have hiC:i<C.length:=by omega
  have hi8':i<8:=by omega
  have hj16:j<16:=by omega
  obtain⟨rb,ro,rfl,hrb,hru,hrz,hrr⟩:=(iv.mono st.ge).row k x hx
  rw[Wy,hxe]at hrr
  rw[hxe]at hla hdr
  simp only at hla hdr
  simp only[abu,qX,aG,aP]at hrr hru hrz
  obtain⟨w0',w1'⟩:=hrr
  have e45':σ 45= .slice (some ⟨rb,ro,none⟩) L.length vc:=e45
  obtain⟨h5',h6,u6,hh5,hh6,B5,B6,s6,hz6⟩:=kZ u' h' [.int .i64 0,.int .i64 0] [.int .i64 i,.int .i64 j] 124 rfl
  have B51:=B5.1
  have B61:=B6.1
  obtain⟨bb,hbb⟩:=kJ h'.size
  rw[<-hbb]at B5 B51 B6 B61 hh6
  have T6:=T.sZ s6
  have H6:=Hb.sZ s6
  have N6:=Nb.sZ s6
  have st6:=st.tZ s6
  have hjv:=H6.2.2.2.2 j _ (abv (Nh hj16))
  rw[decide_eq_false hnj]at hjv
  -- the writes
  have H7:=H6.set (i:=j) (v:= .bool true) (by simp [Un,FJ];omega)
  have s7:=kG.set (S:=λz=>z=hb) u6 h6 (b:=hb) (o:=j) (.bool true) rfl (by rw[H6.2.2.2.1];exact az _)
  obtain⟨h7,hh7⟩:=kJ (lh h6 hb j (.bool true))
  rw[<-hh7]at H7 s7
  have T7:=T6.step s7 (by omega)
  have N7:=N6.step s7 (by omega)
  have B7:=B6.step s7 (by omega)
  have tiv:=T7.2.2.2.2 i _ (xu (Cx hi8'))
  rw[ah hni]at tiv
  have T8:=T7.set (i:=i) (v:= .int .i64 1) (by simp [lT,Cy];omega)
  have s8:=kG.set (S:=λz=>z=tb) u6 h7 (b:=tb) (o:=i) (.int .i64 1) rfl (by rw[T7.2.2.2.1];exact az _)
  obtain⟨h8,hh8⟩:=kJ (lh h7 tb i (.int .i64 1))
  rw[<-hh8]at T8 s8
  have H8:=H7.step s8 (by omega)
  have N8:=N7.step s8 (by omega)
  have st8:=(st6.own s7 λb q=>by rw[q];exact hb0).own s8 λb q=>by rw[q];exact tb0
  have zH:hsz h6 hb=16:=H6.2.1
  have zT:hsz h7 tb=8:=T7.2.1
  have B71:=B7.1
  simp(disch:=first|omega|simp only[zz];try omega;done) only[↓reduceIte,go_sem,aZ,bY,e2,e7,e8,e9,e10,e45',e46,e47,af (show(k:Int)<(L.length:Nat) by omega),w0',w1',<-hbb,<-hh5,<-hh6,B5.2.1,B5.2.2.1,B6.at,B6.2.1,au (show¬(i:Int)<=last by omega),au (show¬(C.length:Int)<=(i:Int) by omega),au (show¬(j:Int)<0 by omega),au (show¬w0<=(j:Int) by omega),af (show(j:Int)<16 by omega),af (show j<16 by omega),af (show(0:Int)<=(j:Int) by omega),hjv,zH,H6.2.2.1,<-hh7,B7.at,B7.2.1,af (show(i:Int)<8 by omega),af (show i<8 by omega),af (show(0:Int)<=(i:Int) by omega),tiv,zT,T7.2.2.1,<-hh8]
  refine⟨by omega,az _,by omega,az _,k+1,?_,by omega⟩
  rw[hI]
  have tk:L.take (k+1)=L.take k++[((i:Int),(j:Int))]:=by rw[aS,hx,hxe];rfl
  refine⟨u6,(i:Int),by simp [kF,e2],by simp [kF,e4],by simp [kF,e7],by simp [kF,e8],by simp [kF,e9],by simp [kF],by simp [kF,e45'],by simp [kF,e46],by simp [kF],hlt,hdr,st8,ge.trans (s6.ge.trans (s7.ge.trans s8.ge)),N8,?_,?_⟩
  ·rw[tk,eD,List.map_singleton,QB hi8',DK];exact T8
  ·rw[tk,eD,List.map_singleton,abx hj16,abw];exact H8
 rw[aK (by omega)]at T
 have Nb':=Nb
 rw[hNd]at Nb'
 simp(disch:=first|omega|simp only[zz];try omega;done) only[↓reduceIte,go_sem,e4,e46,e47,au (show¬(k:Int)<(L.length:Nat) by omega),Nb'.at,Nb'.2.1]
 clear hI I
 have hMs:M.Pairwise (· < ·):=by rw[hM];exact Bo
 have hMm: ∀x∈M,∃i:Nat,i<p.2.length/\x=(i:Int):=λx hx=>by
  rw[hM]at hx
  obtain⟨k,s,h1,-,-,h4⟩:=Ng hx
  exact⟨k,(aJ.1 h1).1,h4⟩
 have hMn: ∀x∈M,x ∉ L.map (·.1):=λx hx=>by rw[hL];rw[hM]at hx;exact Yu hx
 have hpl: ∀(i:Nat) (s:pW),p.2[i]? =some s->(((i:Int)∈L.map (·.1)++M)↔CW p.2 i s=true):=λi s hs=>by rw[hL,hM];exact Yt hs
 obtain⟨I,hI⟩:=kJ (α:=Nat->lm->H->Prop) λk σ h'=> ∃(u':U) (last:Int),σ 7= .slice sx C.length sc/\σ 8= .pointer (some ⟨tb,0,none⟩)/\σ 10= .int .i64 last/\σ 92= .slice wx M.length wc/\σ 93= .int .i64 (M.length:Nat)/\σ 94= .int .i64 k/\k<=M.length/\(∀x∈M.drop k,last<x)/\kG S0 u h u' h'/\Ge u2 h2 u' h'/\kV u' h' tb (lT (tmF (L.map (·.1)++M.take k)))
 refine kH I (λj=>M.length - j) 0 (by rw[hI];exact⟨u',-1,by simp [kF,e7],by simp [kF,e8],by simp [kF],by simp [kF],by simp [kF],by simp [kF],by omega,λx hx=>by
  obtain⟨i,-,rfl⟩:=hMm x hx
  omega,st,ge,by rw[jR,dU];exact T⟩) ?_
 clear hlast T1 H1 Nb1 T Nb Nb' Hb e2 e4 e7 e8 e9 e10 e45 e46 e47 hlt hk st ge
 clear k σ h' u' last
 intro k σ h' hi
 rw[hI]at hi
 obtain⟨u',last,e7,e8,e10,e92,e93,e94,hk,hlast,st,ge,T⟩:=hi
 have T1:=T.1
 by_cases hlt:k<M.length
 case pos=>
  obtain⟨x,hx⟩:=uu hlt
  have hxm:=aI hx
  obtain⟨i,hi8,hxe⟩:=hMm x hxm
  have hla:=hlast x (by rw[bK hlt];rw[aL hlt]at hx;rw[bu hx];simp)
  have hni:x ∉ L.map (·.1)++M.take k:=λq=>by
   rcases bG.1 q with q|q
   ·exact hMn x hxm q
   ·have:=Nf hMs hx x q;omega
  have hdr:=Wx hMs hx
  have hiC:i<C.length:=by omega
  have hi8':i<8:=by omega
  obtain⟨rb,ro,rfl,hrb,hru,hrz,hrr⟩:=(iw.mono st.ge).row k x hx
  rw[lD,hxe]at hrr
  rw[hxe]at hla hdr hni
  simp only[nM,oV,aG,aP,aZ]at hrr hru hrz
  have e92':σ 92= .slice (some ⟨rb,ro,none⟩) M.length wc:=e92
  have tiv:=T.2.2.2.2 i _ (xu (Cx hi8'))
  rw[ah hni]at tiv
  have T8:=T.set (i:=i) (v:= .int .i64 1) (by simp [lT,Cy];omega)
  have s8:=kG.set (S:=λz=>z=tb) u' h' (b:=tb) (o:=i) (.int .i64 1) rfl (by rw[T.2.2.2.1];exact az _)
  obtain⟨h8,hh8⟩:=kJ (lh h' tb i (.int .i64 1))
  rw[<-hh8]at T8 s8
  have st8:=st.own s8 λb q=>by rw[q];exact tb0
  have zT:hsz h' tb=8:=T.2.1
  simp(disch:=first|omega|simp only[zz];try omega;done) only[↓reduceIte,go_sem,aZ,bY,e7,e8,e10,e92',e93,e94,af (show(k:Int)<(M.length:Nat) by omega),hrr,au (show¬(i:Int)<=last by omega),au (show¬(C.length:Int)<=(i:Int) by omega),af (show(i:Int)<8 by omega),af (show i<8 by omega),af (show(0:Int)<=(i:Int) by omega),tiv,zT,T.2.2.1,<-hh8]
  refine⟨by omega,az _,k+1,?_,by omega⟩
  rw[hI]
  have tk:M.take (k+1)=M.take k++[(i:Int)]:=by rw[aS,hx,hxe];rfl
  refine⟨u',(i:Int),by simp [kF,e7],by simp [kF,e8],by simp [kF],by simp [kF,e92'],by simp [kF,e93],by simp [kF],hlt,hdr,st8,ge.trans s8.ge,?_⟩
  rw[tk,<-bB,QB hi8',DK];exact T8
 rw[aK (by omega)]at T
 simp(disch:=first|omega|simp only[zz];try omega;done) only[↓reduceIte,go_sem,e7,e93,e94,au (show¬(k:Int)<(M.length:Nat) by omega)]
 clear hI I
 obtain⟨I,hI⟩:=kJ (α:=Nat->lm->H->Prop) λk σ h''=>σ 8= .pointer (some ⟨tb,0,none⟩)/\σ 114= .slice sx C.length sc/\σ 115= .int .i64 (C.length:Nat)/\σ 116= .int .i64 k/\k<=C.length/\h''=h'
 refine kH I (λj=>C.length - j) 0 (by rw[hI];exact⟨by simp [kF,e8],by simp [kF],by simp [kF],by simp [kF],by omega,rfl⟩) ?_
 clear hlast e7 e8 e10 e92 e93 e94 hlt hk
 clear k σ
 intro k σ h'' hi
 rw[hI]at hi
 obtain⟨e8,e114,e115,e116,hk,rfl⟩:=hi
 by_cases hlt:k<C.length
 case neg=>
  have hK:=hK u' h'' st
  simp(disch:=first|omega|simp only[zz];try omega;done) only[↓reduceIte,go_sem,e115,e116,au (show¬(k:Int)<(C.length:Nat) by omega)]
  exact hK
 obtain⟨y,hy⟩: ∃y,p.2[k]? =some y:=⟨p.2[k]'(by omega),by rw[aL]⟩
 have hc:C[k]? =some (mW p.2 y):=by
  rw[hC]
  show(p.2.map (mW p.2))[k]? =_
  rw[aR,hy];rfl
 have hy0:=hp.2.2 y (aI hy)
 obtain⟨rb,ro,rfl,hrb,hru,hrz,hrr⟩:=(is.mono ge).row k _ hc
 rw[lD]at hrr
 simp only[nM,oV,aG,aP,aZ]at hrr hru hrz
 have tiv:=T.2.2.2.2 k _ (xu (Cx (show k<8 by omega)))
 have zT:hsz h'' tb=8:=T.2.1
 have hiff:=hpl k y hy
 have hcf:=Uq (l:=p.2) (i:=k) hy0
 obtain⟨z,hz⟩:=kJ (mW p.2 y)
 rw[<-hz]at hrr hcf
 have k8:k<8:=by omega
 have fin: ∀σ'':lm,σ'' 116= .int .i64 ((k:Int)+1)->(∀i,i<116->i≠15->i≠16->i≠17->σ'' i=σ i)->σ'' 115=σ 115-> ∃j,I j σ'' h''/\C.length - j<C.length - k:=λσ'' g116 gσ g=>by
  refine⟨k+1,?_,by omega⟩
  rw[hI]
  exact⟨(gσ 8 (by omega) (by omega) (by omega) (by omega)).trans e8,(gσ 114 (by omega) (by omega) (by omega) (by omega)).trans e114,g.trans e115,by rw[g116];simp,hlt,rfl⟩
 by_cases hf:CW p.2 k y=true
 ·rw[ay (hiff.2 hf)]at tiv
  simp(disch:=first|omega|simp only[zz];try omega;done) only[↓reduceIte,go_sem,aZ,bY,e8,e114,e115,e116,af (show(k:Int)<(C.length:Nat) by omega),hrr,af (show z= -1 - (k:Int)from hcf.2 hf),af (show(k:Int)<8 by omega),k8,af (show(0:Int)<=(k:Int) by omega),tiv,zT]
  exact fin _ (by simp [kF]) (λi z1 z2 z3 z4=>by simp only[kF];repeat rw[ah (by omega)]) (by simp [kF])
 ·rw[ah (λq=>hf (hiff.1 q))]at tiv
  simp(disch:=first|omega|simp only[zz];try omega;done) only[↓reduceIte,go_sem,aZ,bY,e8,e114,e115,e116,af (show(k:Int)<(C.length:Nat) by omega),hrr,au (show¬z= -1 - (k:Int)from λq=>hf (hcf.1 q)),af (show(k:Int)<8 by omega),k8,af (show(0:Int)<=(k:Int) by omega),tiv,zT]
  exact fin _ (by simp [kF]) (λi z1 z2 z3 z4=>by simp only[kF];repeat rw[ah (by omega)]) (by simp [kF])
def Ww(vs:List Value)(h:H)(K:Value->H->Prop):Prop:= ∃(u:U) (va vn ve v w xv xw:Value) (A:List lY) (ui:Nat) (w0 w':Int) (c:oU) (x:lG),vs=[.agg #[va,vn,ve],.agg (qM (vC A ui w0 c) v w).toArray,.agg (qM x xv xw).toArray]/\kM u h va A/\mg vn=true/\mg ve=true/\kM u h v (vC A ui w0 c).2.2.2.1/\kM u h w (vC A ui w0 c).2.2.2.2.1/\mg xv=true/\mg xw=true/\A.length<=2000000/\vO w0 w' c/\Je A c/\0<=w0/\w0<=16/\w'<=16/\0<=x.1/\x.1<=c.1/\x.2.2.2.2.2.2=w0/\ ∀u' h',kG S0 u h u' h'->K (.bool true) h'
def Yr:mG:=λf vs h K _=>(f=96/\Ic vs h K)\/(f=45/\FL vs h K)
theorem Nc:nz Tryz.prog Yr:=mK QA (qd Br)
theorem Um{vs:List Value}{h:H}{K:Value->H->Prop}{KP:List PanicEntry->H->Prop}(hC:Ww vs h K):ma Tryz.prog 72 vs h K KP:=by
 obtain⟨u,va,vn,ve,v,w,xv,xw,A,ui,w0,w',c,x,rfl,iA,okn,oke,iv,iw,okx,oky,hA,hc,hsh,hw0,hw16,hw',Et,hxc,hxw,hK⟩:=hC
 refine kP 1099645847295 [(none,(.t 6))] Nc Tryz.func72 (by kernel_rfl) (by conv=>lhs;cbv;try simp only[mF]) ?_
 obtain⟨aa,ac,rfl,-,-⟩:=iA.sl
 obtain⟨vx,vc,rfl,-,-⟩:=iv.sl
 obtain⟨wx,wc,rfl,-,-⟩:=iw.sl
 obtain⟨h1,u1,hh1,zh1,p1,B1⟩:=kL u h [.slice aa A.length ac,vn,ve] 26
 obtain⟨b1,hb1⟩:=kJ h.size
 rw[<-hb1]at B1
 obtain⟨n,hn⟩:=kJ (vC A ui w0 c)
 rw[<-hn]at iv iw ⊢
 obtain⟨h2,u2,hh2,zh2,p2,N2⟩:=kL u1 h1 (qM n (.slice vx n.2.2.2.1.length vc) (.slice wx n.2.2.2.2.1.length wc)) 36
 obtain⟨b2,hb2⟩:=kJ h1.size
 rw[<-hb2]at N2
 obtain⟨h3,u3,hh3,zh3,p3,X3⟩:=kL u2 h2 (qM x xv xw) 36
 obtain⟨b3,hb3⟩:=kJ h2.size
 rw[<-hb3]at X3
 have B3:=(B1.sZ p2).sZ p3
 have N3:=N2.sZ p3
 have st3:=(p1.tZ p2).tZ p3
 simp only[qM,hxw]at hh2 hh3 N3 X3 ⊢
 have B31:=B3.1
 have N31:=N3.1
 have X31:=X3.1
 by_cases hc2:c.1=2
 ·obtain⟨cw,h0,e,h1',h6,hb1',hb2'⟩:=hc.resolve_left λq=>by rcases q.1 with q|q<;>omega
  have hne:n=(2,(ui:Int),-1,[],[],c.2.2,w0):=by rw[hn];unfold vC;rw[ay hc2]
  rw[hne]at hh2 N3 iv iw ⊢
  simp only[bg]at hh2 N3 ⊢
  have hx3: ¬x.1=3:=by omega
  obtain⟨t,ht⟩:=kJ c.2.2
  rw[<-ht]at hh2 N3 h1' h6 hb1' hb2' ⊢
  obtain⟨h4',h4,u4,hh4',hh4,T4',T4,s4,hz4⟩:=kZ u3 h3 [.int .i64 0,.bool false,.int .i64 0,.bool false,.int .i64 0] [.int .i64 t.1,.bool t.2.1.1,.int .i64 t.2.1.2,.bool t.2.2.1,.int .i64 t.2.2.2] 34 rfl
  obtain⟨tb,htb⟩:=kJ h3.size
  rw[<-htb]at T4' T4 hh4
  have N4:=N3.sZ s4
  have X4:=X3.sZ s4
  have T41:=T4.1
  have T4'1:=T4'.1
  have N41:=N4.1
  have X41:=X4.1
  simp(disch:=first|omega|simp only[zz];try omega;done) only[↓reduceIte,go_sem,<-hh1,<-hb1,<-hh2,<-hb2,<-hh3,<-hb3,N3.at,N3.2.1,<-hh4',<-htb,T4'.2.1,T4'.2.2.1,<-hh4,T4.at,T4.2.1,N4.at,N4.2.1,X4.at,X4.2.1,bg,au hx3,af (show 1<=t.1 by omega),af (show t.1<=6 by omega)]
  refine kD (.inr ⟨rfl,u4,t.2.1,w0,rfl,λu5 h5 s5=>⟨(λp q=>nomatch q),?_⟩⟩)
  have T5:=T4.sZ s5
  have N5:=N4.sZ s5
  have T51:=T5.1
  have N51:=N5.1
  simp(disch:=first|omega|simp only[zz];try omega;done) only[↓reduceIte,go_sem,decide_eq_true hb1',T5.at,T5.2.1,N5.at,N5.2.1]
  refine kD (.inr ⟨rfl,u5,t.2.2,w0,rfl,λu6 h6 s6=>⟨(λp q=>nomatch q),?_⟩⟩)
  simp(disch:=first|omega|simp only[zz];try omega;done) only[↓reduceIte,go_sem,decide_eq_true hb2']
  exact hK _ _ (((st3.tZ s4).tZ s5).tZ s6)
 ·have hc':=hc.resolve_right λq=>hc2 q.1
  obtain⟨hk,ht0,hpw,hwf⟩:=hc'
  obtain⟨kk,p,t⟩:=c
  simp only at hc2 hk ht0 hpw hwf hxc
  subst ht0
  obtain⟨hml,hma⟩:=ug (hsh.resolve_left hc2)
  simp only at hml hma
  obtain⟨mi,hmi⟩:=kJ (ut A (lJ p))
  rw[<-hmi]at hml hma
  have hne:n=(kk,(ui:Int),(mi:Int),ou w0 p.2,qA w0 p.2,oQ,w0+(qA w0 p.2).length):=by rw[hn,hmi];exact ah hc2
  rw[hne]at hh2 N3 iv iw ⊢
  have hwn:=(Vd hwf).1
  simp only[oQ,Jc]at hh2 N3 ⊢
  simp only at iv iw
  have done: ∀(K':Value->H->Prop),(∀u' h',kG S0 u3 h3 u' h'->K' (.bool true) h')->Ic [.agg #[.slice aa A.length ac,vn,ve],.agg (qM (kk,(ui:Int),(mi:Int),ou w0 p.2,qA w0 p.2,oQ,w0+(qA w0 p.2).length) (.slice vx (ou w0 p.2).length vc) (.slice wx (qA w0 p.2).length wc)).toArray,.int .i64 w0] h3 K':=λK' hK'=>
   ⟨u3,_,vn,ve,_,_,A,kk,ui,w0,mi,p,rfl,iA.mono st3.ge,okn,oke,iv.mono st3.ge,iw.mono st3.ge,hma,hA,hpw,hw0,by omega,hK'⟩
  simp only[qM,oQ,Jc]at done
  by_cases h1:kk=1
  ·subst h1
   have hx01:x.1=0\/x.1=1:=by omega
   rcases hx01 with hx|hx
   ·rw[hx]at hh3 X3 ⊢
    simp(disch:=first|omega|simp only[zz];try omega;done) only[↓reduceIte,go_sem,<-hh1,<-hb1,<-hh2,<-hb2,<-hh3,<-hb3,N3.at,N3.2.1,B3.at,B3.2.1,X3.at,X3.2.1]
    refine kD (.inl ⟨rfl,done _ λu4 h4 s4=>⟨(λp q=>nomatch q),?_⟩⟩)
    simp(disch:=first|omega|simp only[zz];try omega;done) only[↓reduceIte,go_sem,Vs]
    exact hK _ _ (st3.tZ s4)
   ·rw[hx]at hh3 X3 ⊢
    simp(disch:=first|omega|simp only[zz];try omega;done) only[↓reduceIte,go_sem,<-hh1,<-hb1,<-hh2,<-hb2,<-hh3,<-hb3,N3.at,N3.2.1,B3.at,B3.2.1,X3.at,X3.2.1]
    refine kD (.inl ⟨rfl,done _ λu4 h4 s4=>⟨(λp q=>nomatch q),?_⟩⟩)
    simp(disch:=first|omega|simp only[zz];try omega;done) only[↓reduceIte,go_sem,Vs]
    exact hK _ _ (st3.tZ s4)
  ·have h3:kk=3:=by omega
   subst h3
   have hlen:(qA w0 p.2).length=0:=by omega
   obtain⟨nl,hnl⟩:=kJ ((qA w0 p.2).length)
   rw[<-hnl]at hh2 N3 done hlen ⊢
   simp(disch:=first|omega|simp only[zz];try omega;done) only[↓reduceIte,go_sem,<-hh1,<-hb1,<-hh2,<-hb2,<-hh3,<-hb3,N3.at,N3.2.1,B3.at,B3.2.1,X3.at,X3.2.1,af (show(nl:Int)=0 by omega)]
   refine kD (.inl ⟨rfl,done _ λu4 h4 s4=>⟨(λp q=>nomatch q),?_⟩⟩)
   simp(disch:=first|omega|simp only[zz];try omega;done) only[↓reduceIte,go_sem,Vs]
   exact hK _ _ (st3.tZ s4)
end Go.Proofs.Z
namespace Edict
open Go.Ev
variable {A:List lY} {j:Nat} {ws:List Nat} {cs:List oU} {N:List lG} {k:Nat}
open Classical in
noncomputable def dep (A:List lY) (N:List lG) (j:Nat):Nat:=if h: ∃cs ws,Path A N cs ws j then h.choose.length else 0
theorem Uk(p:Path A N cs ws j):dep A N j=cs.length:=by
 have h: ∃cs ws,Path A N cs ws j:=⟨cs,ws,p⟩
 unfold dep
 rw[dif_pos h]
 obtain⟨ws',q⟩:=h.choose_spec
 rw[(p.same q).1]
noncomputable def dps (A:List lY) (N:List lG) (k:Nat):List Int:=(List.range N.length).map λj=>if j<k then(dep A N j:Int)else 0
theorem Cw(h:j<N.length):(dps A N k)[j]? =some (if j<k then(dep A N j:Int)else 0):=by
 unfold dps;rw[aR,bT h];rfl
theorem Aa:(dps A N k).length=N.length:=by unfold dps;simp
theorem abt(h:k<N.length):dps A N (k+1)=(dps A N k).set k (dep A N k:Int):=by
 refine bW λx=> ?_
 by_cases hx:x<N.length
 ·rw[Cw hx,fA,Aa,Cw hx]
  by_cases e:k=x
  ·subst e;rw[ay rfl,ay h,ay (by omega)]
  ·rw[ah e]
   by_cases e2:x<k
   ·rw[ay e2,ay (by omega)]
   ·rw[ah e2,ah (by omega)]
 ·rw[aW (by rw[Aa];omega),aW (by rw[dS,Aa];omega)]
theorem adR:dps A N 1=List.replicate N.length 0:=by
 refine bW λx=> ?_
 by_cases hx:x<N.length
 ·rw[Cw hx,fT,ay hx]
  by_cases e:x<1
  ·rw[ay e]
   have:x=0:=by omega
   rw[this,Uk .nil];rfl
  ·rw[ah e]
 ·rw[aW (by rw[Aa];omega),aW (by rw[dE];omega)]
theorem Yp:wu [mR]=λ_=>none:=funext λn=>by
 unfold wu
 rw[ah λq=>q.2 (bJ.1 q.1)]
theorem Nj.dep{i u:Nat}{c:oU}(h:Nj A N i u cs ws c):Edict.dep A N i=Edict.dep A N u+1/\Edict.dep A N u+1<=16:=by
 obtain⟨q,h1,h2,h3,h4,h5,h6,-⟩:=h
 rw[Uk (.snoc q h1 h2 h3 h4 h5),Uk q]
 rw[aN,bz]at h6 ⊢
 exact⟨rfl,h6⟩
end Edict
namespace Go.Proofs.Z
open Go Go.Ev Edict
def Wv(vs:List Value)(h:H)(K:Value->H->Prop):Prop:= ∃(u:U) (va vn ve:Value) (A:List lY) (N:List lG) (W:List (List Nat)) (E:List Nat),vs=[.agg #[va,vn,ve]]/\kM u h va A/\kM u h vn N/\mg ve=true/\DL A N W E/\ ∀u' h',kG S0 u h u' h'->K (.bool true) h'
def Yq:mG:=λf vs h K _=>(f=49/\Ih vs h K)\/(f=16/\UA vs h K)\/(f=72/\Ww vs h K)
theorem Na:nz Tryz.prog Yq:=mK EE (mK KS (qd Um))
def kR:List Value:=[.int .i64 0,.int .i64 (-1),.int .i64 (-1),.int .i64 0,.bool false,.int .i64 0,.bool false,.int .i64 0,.int .i64 0,.int .i64 0,.int .i64 0,.int .i64 0,.int .i64 0,.int .i64 0,.int .i64 0,.int .i64 0,.int .i64 0,.int .i64 0,.int .i64 0,.int .i64 0,.int .i64 0,.int .i64 0,.int .i64 0,.int .i64 0,.int .i64 0,.int .i64 0,.int .i64 0,.int .i64 0,.int .i64 0,.int .i64 0,.int .i64 0,.int .i64 0,.int .i64 0,.int .i64 0,.int .i64 0]
theorem Qz:tu mR=kR:=rfl
theorem ahx:mY [.int .i64,.int .i64,.int .i64,.int .i64,.bool,.int .i64,.bool,.int .i64,.int .i64,.int .i64,.int .i64,.int .i64,.int .i64,.int .i64,.int .i64,.int .i64,.int .i64,.int .i64,.int .i64,.int .i64,.int .i64,.int .i64,.int .i64,.int .i64,.int .i64,.int .i64,.int .i64,.int .i64,.int .i64,.int .i64,.int .i64,.int .i64,.int .i64,.int .i64,.int .i64] kR=true:=rfl
theorem ahy:Fz kR kR=true:=rfl
theorem Ul{vs:List Value}{h:H}{K:Value->H->Prop}{KP:List PanicEntry->H->Prop}(hC:Wv vs h K):ma Tryz.prog 30 vs h K KP:=by
 obtain⟨u,va,vn,ve,A,N,W,E,rfl,iA,iN,oke,P,hK⟩:=hC
 refine kP 20442103868737931505232802766783 [(none,(.t 2))] Na Tryz.func30 (by kernel_rfl) (by apply c0 rfl;repeat' first|apply cS|apply cK|apply cL|apply cX|(apply cC (by decide))|with_reducible exact cV 16 (.sts [(zx 1 (.t 8) (.t 9)),(zh (zi 1 (.t 8) (.t 9))),(zq .gtr (zl (zi 1 (.t 8) (.t 9))) (zv 16)),(.chk [((zb .gtr (zl (zi 1 (.t 8) (.t 9))) (zv 16)),false)] (.c1 (.ldn 3) (.t 1))),(.chk [((zb .gtr (zl (zi 1 (.t 8) (.t 9))) (zv 16)),false)] (.c1 (.ldn 11) (.t 10))),(.chk [((zb .gtr (zl (zi 1 (.t 8) (.t 9))) (zv 16)),false)] (.c1 (.fld 1) (.t 1))),(.chk [((zb .gtr (zl (zi 1 (.t 8) (.t 9))) (zv 16)),false)] (.c1 .ld1 (zf 1 (.t 1)))),(.chk [((zb .gtr (zl (zi 1 (.t 8) (.t 9))) (zv 16)),false)] (.c1 (.fld 1) (.t 10))),(.chk [((zb .gtr (zl (zi 1 (.t 8) (.t 9))) (zv 16)),false)] (.c1 .ld1 (zf 1 (.t 10)))),(.chk [((zb .gtr (zl (zi 1 (.t 8) (.t 9))) (zv 16)),false)] (.c2 (.idxA 11) (zl (zf 1 (.t 1))) (zl (zf 1 (.t 10))))),(.chk [((zb .gtr (zl (zi 1 (.t 8) (.t 9))) (zv 16)),false)] (.c1 (.ldn 11) (zi 11 (zl (zf 1 (.t 1))) (zl (zf 1 (.t 10)))))),(.set 87 (.o1 (.ldn 11) (zi 11 (zl (zf 1 (.t 1))) (zl (zf 1 (.t 10)))))),(.set 86 (zi 11 (zl (zf 1 (.t 1))) (zl (zf 1 (.t 10))))),(.set 81 (.o1 (.ldn 11) (.t 10))),(.set 80 (.o1 (.ldn 3) (.t 1))),(.set 79 (zb .gtr (zl (zi 1 (.t 8) (.t 9))) (zv 16))),(.eff [((.t 79),false)] (some 88) (.call 72) [(.t 80),(.t 81),(.t 87)] []),(.chk [((.t 79),false)] (.c1 .not (.t 88))),(.chk [] (.c3 .pick (.t 79) (.c (.bool true)) (.o1 .not (.t 88)))),(.set 90 (.o3 .pick (.t 79) (.c (.bool true)) (.o1 .not (.t 88))))]) (by kernel_rfl)|(conv=>lhs;cbv;try simp only[mF])) ?_
 obtain⟨aa,ac,rfl,-,-⟩:=iA.sl
 obtain⟨na,nc,rfl,-,-⟩:=iN.sl
 have hA:=P.al
 have hN:=P.nl
 have hN0:=P.n0
 obtain⟨h1,u1,hh1,zh1,p1,B1⟩:=kL u h [.slice aa A.length ac,.slice na N.length nc,ve] 26
 obtain⟨b1,hb1⟩:=kJ h.size
 rw[<-hb1]at B1
 have B11:=B1.1
 obtain⟨pb,po,rfl,hpb,hpu,hpz,hpr⟩:=(iN.mono p1.ge).row 0 mR P.rt
 rw[oL]at hpr
 obtain⟨xv,xw,hpr,ixv,ixw⟩:=hpr
 obtain⟨xa,xc,rfl,-,-⟩:=ixv.sl
 obtain⟨ya,yc,rfl,-,-⟩:=ixw.sl
 simp only[rF,qR,aG,aP,gU,dO]at hpr hpu hpz
 obtain⟨q0,q1,q2,q3,q4,q5,q6,q7,q8,q9,q10⟩:=hpr
 simp(disch:=first|omega|simp only[zz];try omega;done) only[↓reduceIte,go_sem,<-hh1,<-hb1,B1.at,B1.2.1,au (show¬(N.length:Int)=0 by omega),af (show(0:Int)<(N.length:Nat) by omega),q0,q1,q2,q3,q4,q5,q6,q7,q8,q9,q10,gU,dO]
 refine kD (.inl ⟨rfl,u1,mR,_,_,rfl,ixv,ixw,az _,az _,λu2 h2 p2=>⟨(λp q=>nomatch q),?_⟩⟩)
 have st2:=p1.tZ p2
 have B2:=B1.sZ p2
 rw[Qz]
 obtain⟨h3',h3,u3,hh3',hh3,C3',C3,s3,hz3⟩:=kZ u2 h2 zK kR 128 rfl
 obtain⟨cb,hcb⟩:=kJ h2.size
 rw[<-hcb]at C3' C3 hh3
 simp only[zK]at hh3' C3'
 simp only[kR]at hh3 C3 ⊢
 have C3'1:=C3'.1
 have B3:=B2.sZ s3
 have st3:=st2.tZ s3
 simp(disch:=first|omega|simp only[zz];try omega;done) only[↓reduceIte,go_sem,<-hcb,<-hh3',C3'.2.1,C3'.2.2.1,<-hh3]
 refine kD (.inr (.inl ⟨rfl,u3,rfl,λu4 h4 p4=>⟨(λp q=>nomatch q),?_⟩⟩))
 simp(disch:=first|omega|simp only[zz];try omega;done) only[↓reduceIte,go_sem,Vs]
 refine kD (.inl ⟨rfl,u4,mR,_,_,rfl,kM.nil _ _,kM.nil _ _,az _,az _,λu5 h5 p5=>⟨(λp q=>nomatch q),?_⟩⟩)
 rw[Qz]
 obtain⟨h6',h6,u6,hh6',hh6,D6',D6,s6,hz6⟩:=kZ u5 h5 zK kR 128 rfl
 obtain⟨db,hdb⟩:=kJ h5.size
 rw[<-hdb]at D6' D6 hh6
 simp only[zK]at hh6' D6'
 simp only[kR]at hh6 D6 ⊢
 have D6'1:=D6'.1
 have D61:=D6.1
 have C6:=((C3.sZ p4).sZ p5).sZ s6
 have B6:=((B3.sZ p4).sZ p5).sZ s6
 have st6:=((st3.tZ p4).tZ p5).tZ s6
 have C61:=C6.1
 have B61:=B6.1
 have c35:sO h6 cb 0 35=kR:=C6.all rfl
 have d35:sO h6 db 0 35=kR:=D6.all rfl
 simp(disch:=first|omega|simp only[zz];try omega;done) only[↓reduceIte,go_sem,<-hdb,<-hh6',D6'.2.1,D6'.2.2.1,<-hh6,C6.2.1,D6.2.1,c35,d35,ahx,ahy]
 refine LD Zm kE u6 λu7 h7 s7 M7=>⟨(λp q=>nomatch q),?_⟩
 obtain⟨mb,hmb⟩:=kJ h6.size
 rw[<-hmb]at M7 ⊢
 have B7:=B6.sZ s7
 have B71:=B7.1
 have st7:=st6.tZ s7
 simp(disch:=first|omega|simp only[zz];try omega;done) only[↓reduceIte,go_sem,B7.at,B7.2.1]
 refine⟨aH _,by omega,?_⟩
 obtain⟨h8,u8,hh8,zh8,p8,E8⟩:=kL u7 h7 (qx [.int .i64 0] N.length) 3
 obtain⟨eb,heb⟩:=kJ h7.size
 rw[<-heb]at E8
 have eE:qx [.int .i64 0] N.length=lT (dps A N 1):=by
  rw[adR,wP];unfold lT;rw[List.map_replicate]
 rw[eE]at E8 hh8
 rw[eE,<-hh8,<-heb]
 have B8:=B7.sZ p8
 have M8:=M7.step p8 λq=>q
 have st8:=st7.tZ p8
 have hmb0:h.size<=mb:=by rw[hmb];exact st6.ge.sz
 have heb0:h.size<=eb:=by rw[heb];exact st7.ge.sz
 have hme:mb≠eb:=by have:=M7.lt;omega
 have hbm:b1<mb:=by rw[hmb];exact B61
 have hbe:b1<eb:=by rw[heb];exact B71
 have et:(λ_=>none:Nr->Option Int)=wu (N.take 1):=by
  rw[<-Yp]
  congr 1
  match N,P.rt with
  |x::N',e=>cases e;rfl
 rw[et]at M8
 obtain⟨I,hI⟩:=kJ (α:=Nat->lm->H->Prop) λk σ h'=> ∃(u':U) (c:Nat),σ 1= .pointer (some ⟨b1,0,none⟩)/\σ 7= .map (some mb)/\σ 8= .slice (some ⟨eb,0,none⟩) N.length N.length/\σ 9= .int .i64 k/\1<=k/\k<=N.length/\kG S0 u h u' h'/\kV u' h' b1 [.slice aa A.length ac,.slice (some ⟨pb,po,none⟩) N.length nc,ve]/\kV u' h' eb (lT (dps A N k))/\Fv Zm kE h' mb (wu (N.take k)) c
 refine kH I (λj=>N.length - j) 1 (by rw[hI];exact⟨u8,0,by simp [kF],by simp [kF],by simp [kF],by simp [kF],by omega,by omega,st8,B8,E8,M8⟩) ?_
 clear hh1 hh3 hh3' hh6 hh6' hh8 B1 B2 B3 B6 B7 B8 C3 C3' C6 D6 D6' c35 d35 M7 M8 E8 st2 st3 st6 st7 st8 p2 s3 p4 p5 s6 s7 p8 B11 B61 B71 C3'1 C61 D61 D6'1 q0 q1 q2 q3 q4 q5 q6 q7 q8 q9 q10 eE et
 intro k σ h' hi
 rw[hI]at hi
 obtain⟨u',c0,e1,e7,e8,e9,hk1,hk,st,B,Eb,M⟩:=hi
 have B0:=B.1
 have E0:=Eb.1
 by_cases hlt:k<N.length
 case neg=>
  have hK:=hK u' h' st
  simp(disch:=first|omega|simp only[zz];try omega;done) only[↓reduceIte,go_sem,e1,e9,B.at,B.2.1,au (show¬(k:Int)<(N.length:Nat) by omega)]
  exact hK
 obtain⟨w,cs,ws,c,nd⟩:=P.all k (by omega) hlt
 have ndd:=nd.dep
 have ndk:=nd.kd P.rt
 have ndk0:=nd.kd0 P.rt
 obtain⟨pth,hwk,-,hn,hcnd,hsh,-,-,fit⟩:=nd
 have hww:=P.wid w (by omega)
 have hwk':=P.wid k hlt
 obtain⟨n,hne⟩:=kJ (vC A w (wd N w) c)
 rw[<-hne]at hn fit
 have hn1:n.2.1=(w:Int):=by rw[hne];exact Fu.2
 have hnk:n.1=c.1:=by rw[hne];exact Fu.1
 obtain⟨x,hx⟩: ∃x,N[w]? =some x:=⟨N[w]'(by omega),by rw[aL]⟩
 have hxk:x.1=kd N w:=(Sk hx).symm
 have hxw:x.2.2.2.2.2.2=wd N w:=(zI hx).symm
 obtain⟨qb,qo,qe,hqb,hqu,hqz,hqr⟩:=(iN.mono st.ge).row k n hn
 cases qe
 rw[oL]at hqr
 obtain⟨nv,nw,hqr,inv,inw⟩:=hqr
 obtain⟨nva,nvc,rfl,-,-⟩:=inv.sl
 obtain⟨nwa,nwc,rfl,-,-⟩:=inw.sl
 simp only[rF,qR,aG,aP]at hqr hqu hqz
 obtain⟨q0,q1,q2,q3,q4,q5,q6,q7,q8,q9,q10⟩:=hqr
 obtain⟨h9',h9,u9,hh9',hh9,F9',F9,s9,hz9⟩:=kZ u' h' [.int .i64 0,.int .i64 0,.int .i64 0,.slice none 0 0,.slice none 0 0,.int .i64 0,.bool false,.int .i64 0,.bool false,.int .i64 0,.int .i64 0] (qM n (.slice nva n.2.2.2.1.length nvc) (.slice nwa n.2.2.2.2.1.length nwc)) 36 rfl
 obtain⟨fb,hfb⟩:=kJ h'.size
 rw[<-hfb]at F9' F9 hh9
 simp only[qM]at hh9 F9
 rw[hn1]at hh9 F9 q1
 have F9'1:=F9'.1
 have F91:=F9.1
 have B9:=B.sZ s9
 have E9:=Eb.sZ s9
 have M9:=M.step s9 λq=>q
 have st9:=st.tZ s9
 -- the depth
 have hdw:=E9.2.2.2.2 w _ (xu (Cw (A:=A) (k:=k) (show w<N.length by omega)))
 rw[ay hwk]at hdw
 have hdl:(lT (dps A N k)).length=N.length:=by unfold lT;rw[aQ,Aa]
 have E10:=E9.set (i:=k) (v:= .int .i64 (dep A N k:Nat)) (by rw[hdl];exact hlt)
 rw[<-DK,<-abt hlt]at E10
 have s10:=kG.set (S:=λz=>z=eb) u9 h9 (b:=eb) (o:=k) (.int .i64 (dep A N k:Nat)) rfl (by rw[E9.2.2.2.1];exact az _)
 obtain⟨h10,hh10⟩:=kJ (lh h9 eb k (.int .i64 (dep A N k:Nat)))
 rw[<-hh10]at E10 s10
 have hfe:fb≠eb:=by omega
 have B10:=B9.step s10 (by omega)
 have F10:=F9.step s10 hfe
 have M10:=M9.step s10 hme
 have st10:=st9.own s10 λb q=>by rw[q];exact heb0
 have hdk:=E10.2.2.2.2 k _ (xu (Cw (A:=A) (k:=k+1) hlt))
 rw[ay (Nat.lt_succ_self k)]at hdk
 obtain⟨dk,hdke⟩:=kJ (dep A N k)
 obtain⟨dw,hdwe⟩:=kJ (dep A N w)
 rw[<-hdke,<-hdwe]at ndd
 rw[<-hdke]at hdk hh10
 rw[<-hdwe]at hdw
 have hdkw:(dw:Int)+1=(dk:Int):=by omega
 have F101:=F10.1
 have B101:=B10.1
 have zE:hsz h9 eb=N.length:=by rw[E9.2.1,hdl]
 have zE':hsz h10 eb=N.length:=by rw[E10.2.1];unfold lT;rw[aQ,Aa]
 obtain⟨rb,ro,re,hrb,hru,hrz,hrr⟩:=(iN.mono st10.ge).row w x hx
 cases re
 rw[oL]at hrr
 obtain⟨xv,xw,hrr,ixv',ixw'⟩:=hrr
 obtain⟨xva,xvc,rfl,-,-⟩:=ixv'.sl
 obtain⟨xwa,xwc,rfl,-,-⟩:=ixw'.sl
 simp only[rF,qR,aG,aP]at hrr hru hrz
 obtain⟨r0,r1,r2,r3,r4,r5,r6,r7,r8,r9,r10⟩:=hrr
 simp(disch:=first|omega|simp only[zz];try omega;done) only[↓reduceIte,go_sem,aZ,bY,e1,e8,e9,B.at,B.2.1,af (show(k:Int)<(N.length:Nat) by omega),hlt,af (show(0:Int)<=(k:Int) by omega),q0,q1,q2,q3,q4,q5,q6,q7,q8,q9,q10,<-hfb,<-hh9',F9'.2.1,F9'.2.2.1,<-hh9,F9.at,F9.2.1,au (show¬(w:Int)<0 by omega),au (show¬(k:Int)<=(w:Int) by omega),af (show(0:Int)<=(w:Int) by omega),af (show(w:Int)<(N.length:Nat) by omega),af (show w<N.length by omega),hdw,hdkw,zE,E9.2.2.1,<-hh10,hdk,zE',au (show¬(16:Int)<(dk:Int) by omega),B10.at,B10.2.1,F10.at,F10.2.1,r0,r1,r2,r3,r4,r5,r6,r7,r8,r9,r10]
 refine⟨by omega,az _,?_⟩
 have inv10:=(inv.mono s9.ge).mono s10.ge
 have inw10:=(inw.mono s9.ge).mono s10.ge
 refine kD (.inr (.inr ⟨rfl,u9,.slice aa A.length ac,.slice (some ⟨pb,po,none⟩) N.length nc,ve,.slice nva n.2.2.2.1.length nvc,.slice nwa n.2.2.2.2.1.length nwc,.slice xva x.2.2.2.1.length xvc,.slice xwa x.2.2.2.2.1.length xwc,A,w,wd N w,wd N k,c,x,by rw[<-hne];simp only[qM,hn1],iA.mono st10.ge,rfl,oke,by rw[<-hne];exact inv10,by rw[<-hne];exact inw10,rfl,rfl,by omega,hcnd,hsh,hww.1,hww.2,hwk'.2,by omega,by omega,hxw,λu11 h11 s11=>⟨(λp q=>nomatch q),?_⟩⟩))
 have F11:=F10.sZ s11
 have B11:=B10.sZ s11
 have E11:=E10.sZ s11
 have M11:=M10.step s11 λq=>q
 have st11:=st10.tZ s11
 have F111:=F11.1
 obtain⟨-,-,-,-,-,-,-,f8,f9,-,-⟩:=id fit
 simp(disch:=first|omega|simp only[zz];try omega;done) only[↓reduceIte,go_sem,F11.at,F11.2.1]
 refine kD (.inl ⟨rfl,u11,n,.slice nva n.2.2.2.1.length nvc,.slice nwa n.2.2.2.2.1.length nwc,by simp only[qM,hn1],inv10.mono s11.ge,inw10.mono s11.ge,f8,f9,λu12 h12 s12=>⟨(λp q=>nomatch q),?_⟩⟩)
 have hK35:=QO fit
 have okk:(tu n).all mg=true:=Ik
 have B12:=B11.sZ s12
 have E12:=E11.sZ s12
 have M12:=M11.step s12 λq=>q
 have st12:=st11.tZ s12
 obtain⟨h13',h13,u13,hh13',hh13,G13',G13,s13,hz13⟩:=kZ u12 h12 zK (tu n) 128 (by rw[hK35];rfl)
 obtain⟨gb,hgb⟩:=kJ h12.size
 rw[<-hgb]at G13' G13 hh13
 simp only[zK]at hh13' G13'
 have G13'1:=G13'.1
 have G131:=G13.1
 have B13:=B12.sZ s13
 have E13:=E12.sZ s13
 have M13:=M12.step s13 λq=>q
 have st13:=st12.tZ s13
 have g35:=G13.all hK35
 simp(disch:=first|omega|simp only[zz];try omega;done) only[↓reduceIte,go_sem,<-hgb,<-hh13',G13'.2.1,G13'.2.2.1,hK35,okk,<-hh13,g35,G13.2.1,e7]
 have hnt:n ∉ N.take k:=λq=>by
  obtain⟨j,hj⟩:=dW q
  have hjk:=(aJ.1 hj).1
  rw[aT]at hjk
  rw[bV,ay (by omega),<-hn]at hj
  have:=(jm (by omega) P.nd).1 hj
  omega
 have hnr:n≠mR:=λq=>by
  have h0:=bL (λx:lG=>x.1) q
  have h1:n.1=0:=h0
  rcases hcnd with⟨a|a,-⟩|⟨a,-⟩<;>omega
 have hm:wu (N.take k) ⟨n,fit⟩=none:=ah λq=>hnt q.1
 refine Jj (ks:=Zm) (enc:=kE) (s:=⟨n,fit⟩) Ns (FK fit) M13 ⟨(λp q=>nomatch q),?_⟩
 simp(disch:=first|omega|simp only[zz];try omega;done) only[↓reduceIte,go_sem,qD,hm,gY,jJ,g35,G13.2.1,hK35,e7,e9]
 refine Jk (ks:=Zm) (enc:=kE) (s:=⟨n,fit⟩) u13 Ns (FK fit) M13 λh14 s14 M14=>⟨(λp q=>nomatch q),?_⟩
 have tk:N.take (k+1)=N.take k++[n]:=by rw[aS,hn];rfl
 have htl:(N.take k).length=k:=by rw[aT];omega
 have hma:=QK (N:=N.take k) fit hnt hnr
 rw[htl]at hma
 rw[hma,<-tk]at M14
 simp(disch:=first|omega|simp only[zz];try omega;done) only[↓reduceIte,go_sem,e9]
 refine⟨k+1,?_,by omega⟩
 rw[hI]
 exact⟨u13,_,by simp [kF,e1],by simp [kF,e7],by simp [kF,e8],by simp [kF],by omega,hlt,st13.own s14 λb q=>by rw[q];exact hmb0,B13.step s14 (by omega),E13.step s14 (λe=>hme e.symm),M14⟩
variable {vs:List Value} {h:H} {K:Value->H->Prop} {KP:List PanicEntry->H->Prop}
def abq(vs:List Value)(h:H)(K:Value->H->Prop):Prop:= ∃(u:U) (va vn ve:Value) (A:List lY) (N:List lG) (W:List (List Nat)) (E:List Nat),vs=[.agg #[va,vn,ve]]/\mg va=true/\kM u h vn N/\kM u h ve (lX E)/\DL A N W E/\ ∀u' h',kG S0 u h u' h'->K (.bool true) h'
def abr:mG:=λf vs h K _=>f=36/\abz vs h K
theorem Qy:nz Tryz.prog abr:=qd QH
theorem Ym(hC:abq vs h K):ma Tryz.prog 31 vs h K KP:=by
 obtain⟨u,va,vn,ve,A,N,W,E,rfl,oka,iN,iE,P,hK⟩:=hC
 refine kP 155633852079 [(none,(.t 2))] Qy Tryz.func31 (by kernel_rfl) (by conv=>lhs;cbv;try simp only[mF]) ?_
 obtain⟨na,nc,rfl,-,-⟩:=iN.sl
 obtain⟨ea,ec,rfl,-,-⟩:=iE.sl
 have hN:=P.nl
 have hN0:=P.n0
 have hE:=P.el
 have hWl:=P.wl
 have hEl:(lX E).length=E.length:=by unfold lX;simp
 obtain⟨h1,u1,hh1,zh1,p1,B1⟩:=kL u h [va,.slice na N.length nc,.slice ea (lX E).length ec] 26
 obtain⟨b1,hb1⟩:=kJ h.size
 rw[<-hb1]at B1
 have B11:=B1.1
 simp(disch:=first|omega|simp only[zz];try omega;done) only[↓reduceIte,go_sem,<-hh1,<-hb1,B1.at,B1.2.1]
 rw[hEl]
 obtain⟨I,hI⟩:=kJ (α:=Nat->lm->H->Prop) λk σ h'=> ∃(u':U) (x:Nat),σ 1= .pointer (some ⟨b1,0,none⟩)/\σ 3= .int .i64 x/\σ 9= .slice ea E.length ec/\σ 10= .int .i64 (E.length:Nat)/\σ 11= .int .i64 k/\k<=E.length/\x<=N.length/\tF x (W.drop k)=some N.length/\kG S0 u h u' h'/\kV u' h' b1 [va,.slice na N.length nc,.slice ea (lX E).length ec]
 refine kH I (λj=>E.length - j) 0 (by rw[hI];exact⟨u1,1,by simp [kF],by simp [kF],by simp [kF],by simp [kF],by simp [kF],by omega,by omega,P.fin,p1,B1⟩) ?_
 clear hh1 B1 B11
 intro k σ h' hi
 rw[hI]at hi
 obtain⟨u',x,e1,e3,e9,e10,e11,hk,hx,hfin,st,B⟩:=hi
 have B0:=B.1
 by_cases hlt:k<E.length
 case neg=>
  have hxe:x=N.length:=by
   rw[dJ (by omega),tF]at hfin
   exact bu hfin
  have hK:=hK u' h' st
  simp(disch:=first|omega|simp only[zz];try omega;done) only[↓reduceIte,go_sem,e1,e3,e10,e11,au (show¬(k:Int)<(E.length:Nat) by omega),B.at,B.2.1,af (show(x:Int)=(N.length:Nat) by omega)]
  exact hK
 obtain⟨e,he⟩:=uu hlt
 obtain⟨cs,ws,pth,hw,hc16⟩:=P.ends k e he
 have hen:=pth.lt hN0
 have hwd:W.drop k=ws::W.drop (k+1):=by
  have hkW:k<W.length:=by omega
  rw[bK hkW]
  rw[aL hkW]at hw
  rw[bu hw]
 rw[hwd,tF]at hfin
 obtain⟨z,hz⟩: ∃z,yC x ws=some z:=by
  cases hq:yC x ws with
  |none=>rw[hq]at hfin;cases hfin
  |some z=>exact⟨z,rfl⟩
 rw[hz]at hfin
 simp only at hfin
 have hei:(lX E)[k]? =some (e:Int):=by unfold lX;rw[aR,he];rfl
 obtain⟨pb,po,rfl,hpb,hpu,hpz,hpr⟩:=(iE.mono st.ge).row k _ hei
 rw[lD]at hpr
 simp only[nM,oV,aG,aP,aZ]at hpr hpu hpz
 have e9':σ 9= .slice (some ⟨pb,po,none⟩) E.length ec:=e9
 simp(disch:=first|omega|simp only[zz];try omega;done) only[↓reduceIte,go_sem,aZ,e1,e9',e10,e11,af (show(k:Int)<(E.length:Nat) by omega),af (show(0:Int)<=(k:Int) by omega),hpr,B.at,B.2.1,au (show¬(e:Int)<0 by omega),au (show¬(N.length:Int)<=(e:Int) by omega)]
 refine kD ⟨rfl,u',va,_,_,e,A,N,cs,ws,rfl,oka,rfl,iN.mono st.ge,pth,by omega,by omega,λu2 h2 v s2 iw=>⟨(λp q=>nomatch q),?_⟩⟩
 obtain⟨wa,wc,rfl,-,-⟩:=iw.sl
 have hwl:(lX ws).length=ws.length:=by unfold lX;simp
 have hwl2:ws.length<=16:=by have:=pth.len;omega
 simp(disch:=first|omega|simp only[zz];try omega;done) only[↓reduceIte,go_sem,hwl]
 have B2:=B.sZ s2
 have st2:=st.tZ s2
 obtain⟨J,hJ⟩:=kJ (α:=Nat->lm->H->Prop) λi σ h''=> ∃y:Nat,σ 1= .pointer (some ⟨b1,0,none⟩)/\σ 3= .int .i64 y/\σ 9= .slice (some ⟨pb,po,none⟩) E.length ec/\σ 10= .int .i64 (E.length:Nat)/\σ 11= .int .i64 k/\σ 26= .slice wa ws.length wc/\σ 27= .int .i64 (ws.length:Nat)/\σ 28= .int .i64 i/\i<=ws.length/\y<=x+i/\yC y (ws.drop i)=some z/\h''=h2
 refine kH J (λj=>ws.length - j) 0 (by rw[hJ];exact⟨x,by simp [kF,e1],by simp [kF,e3],by simp [kF,e9'],by simp [kF,e10],by simp [kF,e11],by simp [kF],by simp [kF],by simp [kF],by omega,by omega,hz,rfl⟩) ?_
 clear e1 e3 e9 e9' e10 e11 B B0
 intro i σ h'' hj
 rw[hJ]at hj
 obtain⟨y,e1,e3,e9,e10,e11,e26,e27,e28,hi,hy,hg,rfl⟩:=hj
 by_cases hlt2:i<ws.length
 case neg=>
  rw[dJ (by omega),yC]at hg
  have hyz:y=z:=bu hg
  have hzN: ∀{W:List (List Nat)} {a b:Nat},tF a W=some b->a<=b:=by
   have hg': ∀{l:List Nat} {a b:Nat},yC a l=some b->a<=b:=by
    intro l
    induction l with
    |nil=>intro a b q;cases q;exact aH _
    |cons n l ih=>
     intro a b q
     rw[yC]at q
     split at q
     ·cases q
     ·have:=ih q;split at this<;>omega
   intro W
   induction W with
   |nil=>intro a b q;cases q;exact aH _
   |cons w W ih=>
    intro a b q
    rw[tF]at q
    split at q
    ·rename_i y hy;have:=hg' hy;have:=ih q;omega
    ·cases q
  have hz2:=hzN hfin
  simp(disch:=first|omega|simp only[zz];try omega;done) only[↓reduceIte,go_sem,e11,e27,e28,au (show¬(i:Int)<(ws.length:Nat) by omega)]
  refine⟨k+1,?_,by omega⟩
  rw[hI]
  exact⟨u2,y,by simp [kF,e1],by simp [kF,e3],by simp [kF,e9],by simp [kF,e10],by simp [kF],hlt,by omega,by rw[hyz];exact hfin,st2,B2⟩
 obtain⟨m,hm⟩:=uu hlt2
 have hmd:ws.drop i=m::ws.drop (i+1):=by
  rw[bK hlt2]
  rw[aL hlt2]at hm
  rw[bu hm]
 rw[hmd,yC]at hg
 split at hg
 ·cases hg
 rename_i hnm
 have hmi:(lX ws)[i]? =some (m:Int):=by unfold lX;rw[aR,hm];rfl
 obtain⟨qb,qo,rfl,hqb,hqu,hqz,hqr⟩:=iw.row i _ hmi
 rw[lD]at hqr
 simp only[nM,oV,aG,aP,aZ]at hqr hqu hqz
 by_cases hmy:m=y
 ·rw[ay hmy]at hg
  simp(disch:=first|omega|simp only[zz];try omega;done) only[↓reduceIte,go_sem,aZ,e3,e26,e27,e28,af (show(i:Int)<(ws.length:Nat) by omega),af (show(0:Int)<=(i:Int) by omega),hqr,au (show¬(y:Int)<(m:Int) by omega),af (show(m:Int)=(y:Int) by omega)]
  refine⟨i+1,?_,by omega⟩
  rw[hJ]
  exact⟨y+1,by simp [kF,e1],by simp [kF],by simp [kF,e9],by simp [kF,e10],by simp [kF,e11],by simp [kF,e26],by simp [kF,e27],by simp [kF],hlt2,by omega,hg,rfl⟩
 ·rw[ah hmy]at hg
  simp(disch:=first|omega|simp only[zz];try omega;done) only[↓reduceIte,go_sem,aZ,e3,e26,e27,e28,af (show(i:Int)<(ws.length:Nat) by omega),af (show(0:Int)<=(i:Int) by omega),hqr,au (show¬(y:Int)<(m:Int) by omega),au (show¬(m:Int)=(y:Int) by omega)]
  refine⟨i+1,?_,by omega⟩
  rw[hJ]
  exact⟨y,by simp [kF,e1],by simp [kF,e3],by simp [kF,e9],by simp [kF,e10],by simp [kF,e11],by simp [kF,e26],by simp [kF,e27],by simp [kF],hlt2,by omega,hg,rfl⟩
def MW(vs:List Value)(h:H)(K:Value->H->Prop):Prop:= ∃(u:U) (va vn ve:Value) (A:List lY) (N:List lG) (W:List (List Nat)) (E:List Nat),vs=[.agg #[va,vn,ve]]/\kM u h va A/\kM u h vn N/\kM u h ve (lX E)/\DL A N W E/\ ∀u' h',kG S0 u h u' h'->K (.int .i64 0) h'
def Yn:mG:=λf vs h K _=>(f=29/\QC vs h K)\/(f=30/\Wv vs h K)\/(f=31/\abq vs h K)
theorem MX:nz Tryz.prog Yn:=mK QE (mK Ul (qd Ym))
theorem Ib(hC:MW vs h K):ma Tryz.prog 8 vs h K KP:=by
 obtain⟨u,va,vn,ve,A,N,W,E,rfl,iA,iN,iE,P,hK⟩:=hC
 refine kP 32775 [(none,(.t 2))] MX Tryz.func8 (by kernel_rfl) (by conv=>lhs;cbv;try simp only[mF]) ?_
 obtain⟨aa,ac,rfl,-,-⟩:=iA.sl
 obtain⟨na,nc,rfl,-,-⟩:=iN.sl
 obtain⟨ea,ec,rfl,-,-⟩:=iE.sl
 obtain⟨h1,u1,hh1,zh1,p1,B1⟩:=kL u h [.slice aa A.length ac,.slice na N.length nc,.slice ea (lX E).length ec] 26
 obtain⟨b1,hb1⟩:=kJ h.size
 rw[<-hb1]at B1
 have B11:=B1.1
 simp(disch:=first|omega|simp only[zz];try omega;done) only[↓reduceIte,go_sem,<-hh1,<-hb1,B1.at,B1.2.1]
 refine kD (.inl ⟨rfl,u1,_,_,_,A,N,W,E,rfl,iA.mono p1.ge,iN.mono p1.ge,rfl,P,λu2 h2 s2=>⟨(λp q=>nomatch q),?_⟩⟩)
 have B2:=B1.sZ s2
 have st2:=p1.tZ s2
 have B21:=B2.1
 simp(disch:=first|omega|simp only[zz];try omega;done) only[↓reduceIte,go_sem,B2.at,B2.2.1]
 refine kD (.inr (.inl ⟨rfl,u2,_,_,_,A,N,W,E,rfl,iA.mono st2.ge,iN.mono st2.ge,rfl,P,λu3 h3 s3=>⟨(λp q=>nomatch q),?_⟩⟩))
 have B3:=B2.sZ s3
 have st3:=st2.tZ s3
 have B31:=B3.1
 simp(disch:=first|omega|simp only[zz];try omega;done) only[↓reduceIte,go_sem,B3.at,B3.2.1]
 refine kD (.inr (.inr ⟨rfl,u3,_,_,_,A,N,W,E,rfl,rfl,iN.mono st3.ge,iE.mono st3.ge,P,λu4 h4 s4=>⟨(λp q=>nomatch q),?_⟩⟩))
 simp(disch:=first|omega|simp only[zz];try omega;done) only[↓reduceIte,go_sem,Vs]
 exact hK _ _ (st3.tZ s4)
def Wu(vs:List Value)(h:H)(K:Value->H->Prop):Prop:= ∃(u:U) (va vn ve:Value) (A:List lY) (N:List lG) (W:List (List Nat)) (E:List Nat) (i:Nat) (ws:List Nat),vs=[.agg #[va,vn,ve],.int .i64 i]/\kM u h va A/\kM u h vn N/\kM u h ve (lX E)/\DL A N W E/\W[i]? =some ws/\ ∀u' h' v,kG S0 u h u' h'->kM u' h' v (lX ws)->K (.tuple #[v,.int .i64 0]) h'
def Yo:mG:=λf vs h K _=>(f=8/\MW vs h K)\/(f=36/\abz vs h K)
theorem MZ:nz Tryz.prog Yo:=mK Ib (qd QH)
theorem Uj(hC:Wu vs h K):ma Tryz.prog 11 vs h K KP:=by
 obtain⟨u,va,vn,ve,A,N,W,E,i,ws,rfl,iA,iN,iE,P,hw,hK⟩:=hC
 refine kP 524343 [(none,(.t 4)),(none,(.t 5))] MZ Tryz.func11 (by kernel_rfl) (by conv=>lhs;cbv;try simp only[mF]) ?_
 obtain⟨aa,ac,rfl,-,-⟩:=iA.sl
 obtain⟨na,nc,rfl,-,-⟩:=iN.sl
 obtain⟨ea,ec,rfl,-,-⟩:=iE.sl
 have hEl:(lX E).length=E.length:=by unfold lX;simp
 have hi:=(aJ.1 hw).1
 have hWl:=P.wl
 have hE:=P.el
 obtain⟨e,he⟩: ∃e,E[i]? =some e:=⟨E[i]'(by omega),by rw[aL]⟩
 obtain⟨cs,ws',pth,hw',hc16⟩:=P.ends i e he
 rw[hw]at hw'
 cases hw'
 obtain⟨h1,u1,hh1,zh1,p1,B1⟩:=kL u h [.slice aa A.length ac,.slice na N.length nc,.slice ea (lX E).length ec] 26
 obtain⟨b1,hb1⟩:=kJ h.size
 rw[<-hb1]at B1
 have B11:=B1.1
 simp(disch:=first|omega|simp only[zz];try omega;done) only[↓reduceIte,go_sem,<-hh1,<-hb1,B1.at,B1.2.1]
 refine kD (.inl ⟨rfl,u1,_,_,_,A,N,W,E,rfl,iA.mono p1.ge,iN.mono p1.ge,iE.mono p1.ge,P,λu2 h2 s2=>⟨(λp q=>nomatch q),?_⟩⟩)
 have B2:=B1.sZ s2
 have st2:=p1.tZ s2
 have B21:=B2.1
 have hei:(lX E)[i]? =some (e:Int):=by unfold lX;rw[aR,he];rfl
 obtain⟨pb,po,rfl,hpb,hpu,hpz,hpr⟩:=(iE.mono st2.ge).row i _ hei
 rw[lD]at hpr
 simp only[nM,oV,aG,aP,aZ]at hpr hpu hpz
 simp(disch:=first|omega|simp only[zz];try omega;done) only[↓reduceIte,go_sem,B2.at,B2.2.1,aZ,hEl,au (show¬(i:Int)<0 by omega),au (show¬(E.length:Int)<=(i:Int) by omega),af (show(i:Int)<(E.length:Nat) by omega),af (show(0:Int)<=(i:Int) by omega),hpr]
 refine kD (.inr ⟨rfl,u2,_,_,_,e,A,N,cs,ws,rfl,rfl,rfl,iN.mono st2.ge,pth,by omega,by have:=P.nl;omega,λu3 h3 v s3 iv=>⟨(λp q=>nomatch q),?_⟩⟩)
 simp(disch:=first|omega|simp only[zz];try omega;done) only[↓reduceIte,go_sem,Vs]
 exact hK _ _ v (st2.tZ s3) iv
end Go.Proofs.Z
