/- A part of the proof. -/
import Derived.Test.YtgjkkjeakagomaaGreatDoorCbJ
set_option linter.all false
set_option maxRecDepth 100000
set_option maxHeartbeats 4000000
open Go.Value renaming int→Jx
open Go.IntKind renaming i64→JT
namespace Edict
theorem FJ(cs:List jK): ∀(l:List jM) (V:lN) (t:jM),qL cs V (l++[t])=qL cs V l++[if kF (l.foldl kV V) t then(true,((l.foldl kV V).length:Int))else qE cs (l.foldl kV V) t]
 |[],V,t=>rfl
 |x::l,V,t=>by
  rw[aP,qL,qL,FJ cs l,aP,bN]
theorem Jf(cs:List jK): ∀(l:List jM) (V:lN),(qL cs V l).length=l.length
 |[],_=>rfl
 |x::l,V=>by rw[qL,au,au,Jf cs l]
end Edict
namespace Go.Proofs.Z
open Go Go.Ev Edict
structure VD (n:Nat) (u:U) (h:H) (f:Nat) (ps:List kK) (cs:List jK):Prop where
 ex: ∃vps b,f<n/\b<n/\jR u h f [vps,.pointer (some ⟨b,0,none⟩)]/\jS u h vps ps/\Am u h b cs
theorem VD.b{n:Nat}{u:U}{h:H}{f:Nat}{ps:List kK}{cs:List jK}(k:VD n u h f ps cs):FrB u h f ps cs:=by
 obtain⟨vps,b,-,-,h1,h2,h3⟩:=k.ex
 exact⟨vps,b,h1,h2,h3⟩
theorem VD.step{n:Nat}{S:Nat->Prop}{u u':U}{h h':H}{f:Nat}{ps:List kK}{cs:List jK}(k:VD n u h f ps cs)(s:jD S u h u' h')(hn: ∀j,S j->n<=j):VD n u' h' f ps cs:=by
 obtain⟨vps,b,l1,l2,h1,h2,h3⟩:=k.ex
 exact⟨vps,b,l1,l2,h1.step s (λe=>by have:=hn _ e;omega),h2.mono s.ge,h3.step s (λe=>by have:=hn _ e;omega)⟩
theorem VD.sZ{n:Nat}{u u':U}{h h':H}{f:Nat}{ps:List kK}{cs:List jK}(k:VD n u h f ps cs)(s:jD S0 u h u' h'):VD n u' h' f ps cs:=k.step s λ_ e=>e.elim
def Jg(vs:List Value)(h:H)(K:Value->H->Prop):Prop:= ∃(u:U) (k f:Nat) (ps:List kK) (cs:List jK) (a:kZ) (l:List Value) (v:Value) (V:lN),vs=[.pointer (some ⟨f,0,none⟩),.agg l.toArray,v]/\Rep.rep u h a l/\VD k u h f ps cs/\lm k u h v V/\k<=h.size/\a.2.1.length<=1000000/\V.length<=1000000/\(∀t∈a.2.1,t.1≠4->jU t∈cs)/\
 ∀u' h' l' v',jD (jL v) u h u' h'->Rep.rep u' h' ((lW ps a.1,qL cs V a.2.1):mV) l'->lm k u' h' v' (a.2.1.foldl kV V)->(∀b,jL v' b->jL v b\/h.size<=b)->K (.tuple #[.agg l'.toArray,v']) h'
def NY:lq:=λf vs h K _=>(f=77/\Jm vs h K)\/(f=86/\NZ vs h K)\/(f=104/\GV vs h K)
theorem Gp:lQ Tryz.prog NY:=lY BC (lY EJ (pX Cx))
theorem KJ{vs:List Value}{h:H}{K:Value->H->Prop}{KP:List PanicEntry->H->Prop}(hC:Jg vs h K):kN Tryz.prog 85 vs h K KP:=by
 obtain⟨u,k,f,ps,cs,a,l,v,V,rfl,ha,hF,hV,hkz,hal,hVl,hac,hK⟩:=hC
 obtain⟨va,vc,hve,q1,q2⟩:=hV.sl
 rw[kE]at ha
 obtain⟨aw,rfl,haa⟩:=ha
 obtain⟨aa,ac,rfl,q3,q4⟩:=haa.sl
 have hm:=lC
 refine jJ 17196650455 [((some (.c1 (.ldn 2) (.t 6))),(.o1 (.ldn 2) (.t 6))),(none,(.t 7))] Gp Tryz.func85 ?_
 have s1:=jD.qZ S0 u h #[str a.1,.slice aa a.2.1.length ac,Jx JT a.2.2] 51
 have B1:=jR.newc (u:=u) (h:=h) [str a.1,.slice aa a.2.1.length ac,Jx JT a.2.2] 51
 have s2:=jD.qZ S0 (ub u h.size 0) (h.push (.cells #[str a.1,.slice aa a.2.1.length ac,Jx JT a.2.2] 51)) #[Jx JT 0,.slice none 0 0] 82
 have B2:=jR.newc (u:=ub u h.size 0) (h:=h.push (.cells #[str a.1,.slice aa a.2.1.length ac,Jx JT a.2.2] 51)) [Jx JT 0,.slice none 0 0] 82
 have B1:=B1.sZ s2
 have st2:=s1.tZ s2
 obtain⟨u2,hu2⟩:=kg (ub (ub u h.size 0) (h.push (.cells #[str a.1,.slice aa a.2.1.length ac,Jx JT a.2.2] 51)).size 0)
 obtain⟨h2,hh2⟩:=kg ((h.push (.cells #[str a.1,.slice aa a.2.1.length ac,Jx JT a.2.2] 51)).push (.cells #[Jx JT 0,.slice none 0 0] 82))
 have hz2:h2.size=h.size+2:=by rw[hh2];simp only[kw]
 have B2:jR u2 h2 (h.size+1) [Jx JT 0,.slice none 0 0]:=by rw[hu2,hh2];simpa only[kw]using B2
 have B1:jR u2 h2 h.size [str a.1,.slice aa a.2.1.length ac,Jx JT a.2.2]:=by rw[hu2,hh2];exact B1
 have st2:jD S0 u h u2 h2:=by rw[hu2,hh2];exact st2
 have b1l:=B1.1
 have b2l:=B2.1
 obtain⟨vps,b,hFb,hFp,hFB⟩:=(hF.b.sZ st2).ex
 have hfl:=hFb.1
 simp only[↓reduceIte,go_sem,<-hh2]
 obtain⟨M,hM⟩:=kg (α:=ku->H->Prop) λσ' h3=> ∃u3,akT u h f h.size (h.size+1) 8 [str a.1,.slice aa a.2.1.length ac,Jx JT a.2.2] (lW ps a.1) σ' u3 h3/\σ' 2=v
 refine vX M ?_ ?_
 ·have sp:=jD.qZ S0 u2 h2 #[Jx JT (lW ps a.1),.slice none 0 0] 82
  have P3:=jR.newc (u:=u2) (h:=h2) [Jx JT (lW ps a.1),.slice none 0 0] 82
  rw[hz2]at P3
  have fin: ∀σ':ku,σ' 0= .pointer (some ⟨f,0,none⟩)->σ' 2=v->σ' 4= .pointer (some ⟨h.size,0,none⟩)->σ' 6= .pointer (some ⟨h.size+1,0,none⟩)->σ' 8= .pointer (some ⟨h2.size,0,none⟩)->M σ' (h2.push (.cells #[Jx JT (lW ps a.1),.slice none 0 0] 82)):=λσ' g0 g2 g4 g6 g7=>by
   rw[hM]
   exact⟨_,⟨st2.tZ sp,g0,g4,g6,by rw[g7,hz2],zY,B1.sZ sp,B2.sZ sp,by rw[hz2];exact P3⟩,g2⟩
  simp(disch:=first|omega|simp only[zz];try omega;done) only[↓reduceIte,go_sem,vQ,B1.at,B1.2.1,hFb.at,hFb.2.1]
  refine⟨jC (.inl ⟨rfl,u2,vps,ps,a.1,rfl,hFp,zE,?_⟩),?_⟩
  ·simp(disch:=omega) only[↓reduceIte,go_sem,jN]
   exact fin _ zJ zJ zJ zJ zJ
  ·have sp0:=jD.qZ S0 u2 h2 #[Jx JT 0,.slice none 0 0] 82
   refine jC (.inl ⟨rfl,_,vps,ps,a.1,rfl,hFp.mono sp0.ge,zE,?_⟩)
   simp(disch:=omega) only[↓reduceIte,go_sem,jN]
   exact fin _ zJ zJ zJ zJ zJ
 intro σ3 h3 hM3
 rw[hM]at hM3
 obtain⟨u3,⟨st3,g0,g4,g6,g7,hz3,A3,R3,P3⟩,g2⟩:=hM3
 clear hM M
 have hVlt: ∀j,jL v j->j<h.size:=λj hj=>hV.lt hj
 simp only[go_sem]
 obtain⟨I,hI⟩:=kg (α:=Nat->ku->H->Prop) λi σ h'=>σ 0= .pointer (some ⟨f,0,none⟩)/\σ 4= .pointer (some ⟨h.size,0,none⟩)/\σ 6= .pointer (some ⟨h.size+1,0,none⟩)/\σ 8= .pointer (some ⟨h.size+2,0,none⟩)/\σ 9= Jx JT i/\i<=a.2.1.length/\
  ∃u' w,jD (jL v) u h u' h'/\h.size+3<=h'.size/\jR u' h' h.size [str a.1,.slice aa a.2.1.length ac,Jx JT a.2.2]/\jR u' h' (h.size+1) [Jx JT 0,.slice none 0 0]/\jR u' h' (h.size+2) [Jx JT (lW ps a.1),w]/\lm (h.size+3) u' h' w (qL cs V (a.2.1.take i))/\lm k u' h' (σ 2) ((a.2.1.take i).foldl kV V)/\(∀j,jL w j-> ¬jL (σ 2) j)/\ ∀j,jL (σ 2) j->jL v j\/h.size+3<=j
 refine jE I (λi=>a.2.1.length - i) 0 (by
  rw[hI]
  have st3':jD (jL v) u h u3 h3:=st3.mono λ_ _ e=>e.elim
  exact⟨by simp [jI,g0],by simp [jI,g4],by simp [jI,g6],by simp [jI,g7],zJ,aj _,u3,_,st3',zO,A3,R3,P3,.nil _ _ _,by simpa [jI,g2]using hV.sZ st3,(λj hj=>by obtain⟨_,_,_,e⟩:=hj;cases e),λj hj=> .inl (by simpa [jI,g2]using hj)⟩) ?_
 clear g0 g2 g4 g6 g7 st3 hz3 A3 R3 P3
 intro i σ h' hy
 rw[hI]at hy
 obtain⟨e0,e4,e6,e8,e9,hi,u',w,st,hz,A,R,P,ho,hv,hdis,hown⟩:=hy
 have al:=A.1
 have rl:=R.1
 have pl:=P.1
 by_cases hlt:i<a.2.1.length
 ·obtain⟨x,hs⟩: ∃x,a.2.1[i]? =some x:=⟨a.2.1[i],by simp [hlt]⟩
  obtain⟨pb,po,rfl,hpb,hpu,hpz,hpr⟩:=(haa.mono st.ge).row i x hs
  simp only[ko,jM.enc,lG,mQ,ax,aC]at hpr hpu hpz
  obtain⟨p0,p1,p2,p3⟩:=hpr
  have htk:a.2.1.take (i+1)=a.2.1.take i++[x]:=by rw[aX,hs];rfl
  have hSn:=FJ cs (a.2.1.take i) V x
  have hVn:(a.2.1.take (i+1)).foldl kV V=kV ((a.2.1.take i).foldl kV V) x:=pI hs
  rw[<-htk]at hSn
  have hVL:((a.2.1.take i).foldl kV V).length<=2000000:=by
   have:=BH (a.2.1.take i) V
   rw[aR]at this;omega
  have hSL:(qL cs V (a.2.1.take i)).length<=1000000:=by rw[Jf,aR];omega
  obtain⟨Vi,hVi⟩:=kg ((a.2.1.take i).foldl kV V)
  obtain⟨Si,hSi⟩:=kg (qL cs V (a.2.1.take i))
  rw[<-hVi]at hv hSn hVn hVL
  rw[<-hSi]at ho hSn hSL
  obtain⟨sa,sc,hσ2,-,-⟩:=hv.sl
  obtain⟨wa,wc,rfl,-,-⟩:=ho.sl
  rw[hσ2]at hv hdis hown
  have sX:=jD.qZ S0 u' h' #[Jx JT x.1,Jx JT x.2.1,str x.2.2.1,Jx JT x.2.2.2] 74
  have X1:=jR.newc (u:=u') (h:=h') [Jx JT x.1,Jx JT x.2.1,str x.2.2.1,Jx JT x.2.2.2] 74
  simp(disch:=first|omega|simp only[zz];try omega;done) only[↓reduceIte,go_sem,hσ2,e4,e9,A.at,A.2.1,hlt,p0,p1,p2,p3]
  have hvX:=hv.sZ sX
  refine jC (.inr (.inr ⟨rfl,_,x,_,Vi,rfl,hvX.iZ,λu4 h4 s4=>⟨jO,?_⟩⟩))
  have sX4:=sX.tZ s4
  have st4:jD (jL v) u h u4 h4:=st.trans sX4 λ_ _ e=>e.elim
  have A4:=A.sZ sX4
  have R4:=R.sZ sX4
  have P4:=P.sZ sX4
  have X4:=X1.sZ s4
  have ho4:=ho.sZ sX4
  have hv4:=hv.sZ sX4
  have hz4:=sX4.ge.sz
  have hF4:VD k u4 h4 f ps cs:=hF.step st4 λj hj=>hV.ge hj
  have p4l:=P4.1
  have x4l:=X4.1
  have hzs:=s4.ge.sz
  simp only[kw]at hzs
  have Uc:h.size+3<=h'.size:=hz
  cases hlo:kF Vi x with
  |true=>
   rw[hlo,ah rfl]at hSn
   rw[Jk hlo]at hVn
   have hrx:Rep.rep u4 h4 ((true,(Vi.length:Int)):uL) [.bool true,Jx JT Vi.length]:=by rw[wC]
   simp(disch:=first|omega|simp only[zz];try omega;done) only[↓reduceIte,go_sem,hσ2,e8,P4.at,P4.2.1]
   refine kW (e':=158) (cs:=[.bool true,Jx JT Vi.length]) rfl ho4 hrx rfl rfl zO zO λa6 n6 c6 u6 h6 o6 s6 w6=>⟨jO,?_⟩
   have st6:jD (jL v) u h u6 h6:=st4.trans s6 λj hj e=>by have:=ho4.ge e;omega
   have A6:=A4.step s6 λhj=>by have:=ho4.ge hj;omega
   have R6:=R4.step s6 λhj=>by have:=ho4.ge hj;omega
   have P6:=P4.step s6 λhj=>by have:=ho4.ge hj;omega
   have X6:=X4.step s6 λhj=>by have:=ho.lt hj;omega
   have hv6:=hv4.step s6 λb hb hb2=>hdis b hb2 hb
   have hz6:=s6.ge.sz
   obtain⟨xa6,xc6,hx6,-,-⟩:=o6.sl
   cases hx6
   obtain⟨W,hW⟩:=kg (Si++[(true,(Vi.length:Int))])
   have hWl:Si.length+1=W.length:=by rw[hW,ay];rfl
   rw[<-hW]at o6 hSn ⊢
   have d6: ∀j,jL (.slice a6 W.length c6) j-> ¬jL (.slice sa Vi.length sc) j:=λj hj hj2=>by
    rcases w6 j (by rw[<-hW];exact hj)with h|h
    ·exact hdis j h hj2
    ·have:=hv4.lt hj2;omega
   have sw:=P6.stepSet (i:=1) (v:= .slice a6 W.length c6)
   have P7:jR u6 (ky h6 (h.size+2) 1 (.slice a6 W.length c6)) (h.size+2) [Jx JT (lW ps a.1),.slice a6 W.length c6]:=P6.set (i:=1) (v:= .slice a6 W.length c6) zP
   have A7:=A6.step sw λe=>by have e:h.size=h.size+2:=e;omega
   have R7:=R6.step sw λe=>by have e:h.size+1=h.size+2:=e;omega
   have X7:=X6.step sw λe=>by have e:h'.size=h.size+2:=e;omega
   have o7:=o6.step sw λb hb e=>by have e:b=h.size+2:=e;have:=o6.ge hb;omega
   have hv7:=hv6.step sw λb hb e=>by
    have e:b=h.size+2:=e
    rcases hown b hb with h|h
    ·have:=hVlt b h;omega
    ·omega
   have st7:jD (jL v) u h u6 (ky h6 (h.size+2) 1 (.slice a6 W.length c6)):=st6.trans sw λj hj e=>by have e:j=h.size+2:=e;omega
   have hz7:=sw.ge.sz
   have p6l:=P6.1
   have x6l:=X6.1
   simp only[↓reduceIte,go_sem,hσ2,e8,P6.2.1,P6.2.2.1]
   obtain⟨h7,hh7⟩:=kg (ky h6 (h.size+2) 1 (.slice a6 W.length c6))
   have hsz7:h6.size=h7.size:=by rw[hh7,wS]
   rw[<-hh7]at sw P7 A7 R7 X7 o7 hv7 st7 hz7
   have x7l:=X7.1
   have hrt:Rep.rep u6 h7 x.2.2.1 [str x.2.2.1]:=by rw[mE]
   simp(disch:=first|omega|simp only[zz];try omega;done) only[go_sem,<-hh7,X7.at,X6.2.1]
   refine kW (e':=9) (cs:=[str x.2.2.1]) hsz7 hv7 hrt rfl rfl zO zO λa8 n8 c8 u8 h8 o8 s8 w8=>⟨jO,?_⟩
   have hge: ∀j,jL (.slice sa Vi.length sc) j->jL v j\/h.size+3<=j:=hown
   have no8: ∀j,j<h.size+3->h.size<=j-> ¬jL (.slice sa Vi.length sc) j:=λj h1 h2 hj=>by
    rcases hge j hj with h|h
    ·have:=hVlt j h;omega
    ·omega
   have st8:jD (jL v) u h u8 h8:=st7.trans s8 λj hj e=>by
    rcases hge j e with h|h
    ·exact h
    ·omega
   have A8:=A7.step s8 (no8 _ zO zO)
   have R8:=R7.step s8 (no8 _ zO zO)
   have P8:=P7.step s8 (no8 _ zO zO)
   have o9:=o7.step s8 λb hb hb2=>d6 b hb hb2
   have hz8:=s8.ge.sz
   simp(disch:=omega) only[↓reduceIte,go_sem,e9]
   refine⟨i+1,?_,zO⟩
   rw[hI]
   refine⟨by simp [jI,e0],by simp [jI,e4],by simp [jI,e6],by simp [jI,e8],zJ,hlt,u8,_,st8,zO,A8,R8,P8,by rw[hSn];exact o9,by rw[hVn];simpa [jI]using o8,?_,?_⟩
   ·intro j hj hj2
    have hj2:jL (.slice a8 n8 c8) j:=by simpa [jI]using hj2
    rcases w8 j hj2 with h|h
    ·exact d6 j hj h
    ·have:=o7.lt hj;omega
   ·intro j hj
    have hj:jL (.slice a8 n8 c8) j:=by simpa [jI]using hj
    rcases w8 j hj with h|h
    ·exact hge j h
    ·exact .inr zO
  |false=>
   rw[hlo,af zP]at hSn
   rw[Jl hlo]at hVn
   simp(disch:=first|omega|simp only[zz];try omega;done) only[↓reduceIte,go_sem,e0,hσ2,X4.at,X4.2.1]
   refine jC (.inr (.inl ⟨rfl,u4,f,ps,cs,x,_,Vi,rfl,hF4.b,hv4.iZ,hac x (aF hs),λu5 h5 s5=>⟨jO,?_⟩⟩))
   obtain⟨S,hS⟩:=kg (qE cs Vi x)
   rw[<-hS]at hSn ⊢
   have hse:(uL.enc S).toArray= #[.bool S.1,Jx JT S.2]:=rfl
   rw[hse]
   have sp:=jD.qZ S0 u5 h5 #[.bool S.1,Jx JT S.2] 158
   have s45:=s5.tZ sp
   have st5:jD (jL v) u h _ _:=st4.trans s45 λ_ _ e=>e.elim
   have A5:=A4.sZ s45
   have R5:=R4.sZ s45
   have P5:=P4.sZ s45
   have P5':=P4.sZ s5
   have ho5:=ho4.sZ s45
   have hv5:=hv4.sZ s45
   have p5l:=P5'.1
   have hz5:=s5.ge.sz
   have hrx:Rep.rep (ub u5 h5.size 0) (h5.push (.cells #[.bool S.1,Jx JT S.2] 158)) S [.bool S.1,Jx JT S.2]:=by rw[wC]
   simp(disch:=first|omega|simp only[zz];try omega;done) only[↓reduceIte,go_sem,e8,P5'.at,P5'.2.1]
   refine kW (e':=158) (cs:=[.bool S.1,Jx JT S.2]) (by simp only[kw]) ho5 hrx rfl rfl zY zO λa6 n6 c6 u6 h6 o6 s6 w6=>⟨jO,?_⟩
   have st6:jD (jL v) u h u6 h6:=st5.trans s6 λj hj e=>by have:=ho5.ge e;omega
   have A6:=A5.step s6 λhj=>by have:=ho5.ge hj;omega
   have R6:=R5.step s6 λhj=>by have:=ho5.ge hj;omega
   have P6:=P5.step s6 λhj=>by have:=ho5.ge hj;omega
   have hv6:=hv5.step s6 λb hb hb2=>hdis b hb2 hb
   have hz6:=s6.ge.sz
   simp only[kw]at hz6
   obtain⟨xa6,xc6,hx6,-,-⟩:=o6.sl
   cases hx6
   obtain⟨W,hW⟩:=kg (Si++[S])
   have hWl:Si.length+1=W.length:=by rw[hW,ay];rfl
   rw[<-hW]at o6 hSn ⊢
   have d6: ∀j,jL (.slice a6 W.length c6) j-> ¬jL (.slice sa Vi.length sc) j:=λj hj hj2=>by
    rcases w6 j (by rw[<-hW];exact hj)with h|h
    ·exact hdis j h hj2
    ·have:=hv5.lt hj2
     simp only[kw]at h this
     have:=hv4.lt hj2
     omega
   have sw:=P6.stepSet (i:=1) (v:= .slice a6 W.length c6)
   have P7:jR u6 (ky h6 (h.size+2) 1 (.slice a6 W.length c6)) (h.size+2) [Jx JT (lW ps a.1),.slice a6 W.length c6]:=P6.set (i:=1) (v:= .slice a6 W.length c6) zP
   have A7:=A6.step sw λe=>by have e:h.size=h.size+2:=e;omega
   have R7:=R6.step sw λe=>by have e:h.size+1=h.size+2:=e;omega
   have o7:=o6.step sw λb hb e=>by have e:b=h.size+2:=e;have:=o6.ge hb;omega
   have hv7:=hv6.step sw λb hb e=>by
    have e:b=h.size+2:=e
    rcases hown b hb with h|h
    ·have:=hVlt b h;omega
    ·omega
   have st7:jD (jL v) u h u6 (ky h6 (h.size+2) 1 (.slice a6 W.length c6)):=st6.trans sw λj hj e=>by have e:j=h.size+2:=e;omega
   have hz7:=sw.ge.sz
   have p6l:=P6.1
   simp(disch:=omega) only[↓reduceIte,go_sem,e8,e9,P6.2.1,P6.2.2.1]
   refine⟨i+1,?_,zO⟩
   rw[hI]
   exact⟨by simp [jI,e0],by simp [jI,e4],by simp [jI,e6],by simp [jI,e8],zJ,hlt,u6,.slice a6 W.length c6,st7,zO,A7,R7,P7,by rw[hSn];exact o7,by rw[hVn];simpa [jI,hσ2]using hv7,λj hj hj2=>d6 j hj (by simpa [jI,hσ2]using hj2),λj hj=>hown j (by simpa [jI,hσ2]using hj)⟩
 ·obtain rfl:i=a.2.1.length:=zO
  rw[aK]at ho hv
  obtain⟨wa,wc,rfl,-,-⟩:=ho.sl
  obtain⟨W,hW⟩:=kg (qL cs V a.2.1)
  rw[<-hW]at ho P hdis hK
  have b9:=R.sets (l:=[Jx JT (lW ps a.1),.slice wa W.length wc]) rfl
  have sw:=R.stepSets (l:=[Jx JT (lW ps a.1),.slice wa W.length wc]) rfl
  have hv9:=hv.step sw λb hb e=>by
   have e:b=h.size+1:=e
   rcases hown b hb with h|h
   ·have:=hVlt b h;omega
   ·omega
  have hK':=hK _ _ [Jx JT (lW ps a.1),.slice wa W.length wc] (σ 2) (st.trans sw λj hj e=>by have e:j=h.size+1:=e;omega) (by rw[nA];exact⟨_,rfl,ho.iZ.mono sw.ge⟩) hv9 (λj hj=>by
   rcases hown j hj with h|h
   ·exact .inl h
   ·exact .inr zO)
  simp(disch:=first|omega|simp only[zz];try omega;done) only[↓reduceIte,go_sem,e4,e6,e8,e9,A.at,A.2.1,P.at,P.2.1,R.2.1,R.2.2.1,b9.at,b9.2.1]
  exact hK'
variable {vs:List Value} {h:H} {K:Value->H->Prop} {KP:List PanicEntry->H->Prop}
def ahG(vs:List Value)(h:H)(K:Value->H->Prop):Prop:= ∃(u:U) (f:Nat) (ps:List kK) (cs:List jK) (a:kZ) (l:List Value),vs=[.pointer (some ⟨f,0,none⟩),.agg l.toArray]/\Rep.rep u h a l/\FrB u h f ps cs/\a.2.1.length<=1000000/\(∀t∈a.2.1,jU t∈cs)/\ ∀u' h' l',jD S0 u h u' h'->Rep.rep u' h' (xA ps cs a) l'->K (.agg l'.toArray) h'
def agF:lq:=λf vs h K _=>(f=77/\Jm vs h K)\/(f=40/\Cv vs h K)\/(f=83/\ajg vs h K)
theorem VB:lQ Tryz.prog agF:=lY BC (lY ug (pX Yp))
theorem adn(hC:ahG vs h K):kN Tryz.prog 42 vs h K KP:=by
 obtain⟨u,f,ps,cs,a,l,rfl,ha,hF,hal,hac,hK⟩:=hC
 rw[kE]at ha
 obtain⟨aw,rfl,haa⟩:=ha
 obtain⟨aa,ac,rfl,q3,q4⟩:=haa.sl
 have hm:=lC
 refine jJ 524411 [((some (.c1 (.ldn 2) (.t 4))),(.o1 (.ldn 2) (.t 4)))] VB Tryz.func42 ?_ (by kernel_rfl) (by apply c0 rfl;repeat' first|apply cS|apply cK|apply cL|apply cX|(apply cC zD)|with_reducible exact cV 5 (.sts [(zg 1 (.t 5)),(zh (zf 1 (.t 5))),(zk .nilck (.t 0)),(zg 1 (.t 0)),(zh (zf 1 (.t 0))),(zg 1 (.t 3)),(zh (zf 1 (.t 3))),(zx 4 (zl (zf 1 (.t 3))) (.t 6)),(zk (.ldn 4) (zi 4 (zl (zf 1 (.t 3))) (.t 6))),(.set 32 (.o1 (.ldn 4) (zi 4 (zl (zf 1 (.t 3))) (.t 6)))),(.set 31 (zi 4 (zl (zf 1 (.t 3))) (.t 6))),(.set 27 (zl (zf 1 (.t 0)))),(.set 23 (zl (zf 1 (.t 5)))),(.eff [] (some 33) (.call 40) [(.t 32)] [([],((zf 1 (.t 0)),none)),([],((zf 1 (.t 5)),none))]),(.eff [] (some 34) (.call 83) [(.t 27),(.t 33)] [([],((zf 1 (.t 5)),none))]),(.eff [] (some 35) (.bsl 3 1 1 [(Jx JT 0)] [0]) [(.t 34)] [([],((zf 1 (.t 5)),none))]),(.eff [] (some 36) (.app 3 1 8 [(Jx JT 0)]) [(.t 23),(.t 35)] []),(zg 1 (.t 5)),(.eff [] none (.store 1) [(zf 1 (.t 5)),(.t 36)] [])]) (by kernel_rfl)|(conv=>lhs;cbv;try simp only[Kw]))
 have s1:=jD.qZ S0 u h #[str a.1,.slice aa a.2.1.length ac,Jx JT a.2.2] 51
 have B1:=jR.newc (u:=u) (h:=h) [str a.1,.slice aa a.2.1.length ac,Jx JT a.2.2] 51
 have s2:=jD.qZ S0 (ub u h.size 0) (h.push (.cells #[str a.1,.slice aa a.2.1.length ac,Jx JT a.2.2] 51)) #[Jx JT 0,.slice none 0 0] 117
 have B2:=jR.newc (u:=ub u h.size 0) (h:=h.push (.cells #[str a.1,.slice aa a.2.1.length ac,Jx JT a.2.2] 51)) [Jx JT 0,.slice none 0 0] 117
 have B1:=B1.sZ s2
 have st2:=s1.tZ s2
 obtain⟨u2,hu2⟩:=kg (ub (ub u h.size 0) (h.push (.cells #[str a.1,.slice aa a.2.1.length ac,Jx JT a.2.2] 51)).size 0)
 obtain⟨h2,hh2⟩:=kg ((h.push (.cells #[str a.1,.slice aa a.2.1.length ac,Jx JT a.2.2] 51)).push (.cells #[Jx JT 0,.slice none 0 0] 117))
 have hz2:h2.size=h.size+2:=by rw[hh2];simp only[kw]
 have B2:jR u2 h2 (h.size+1) [Jx JT 0,.slice none 0 0]:=by rw[hu2,hh2];simpa only[kw]using B2
 have B1:jR u2 h2 h.size [str a.1,.slice aa a.2.1.length ac,Jx JT a.2.2]:=by rw[hu2,hh2];exact B1
 have st2:jD S0 u h u2 h2:=by rw[hu2,hh2];exact st2
 have b1l:=B1.1
 have b2l:=B2.1
 obtain⟨vps,b,hFb,hFp,hFB⟩:=(hF.sZ st2).ex
 have hfl:=hFb.1
 simp only[↓reduceIte,go_sem,<-hh2]
 obtain⟨M,hM⟩:=kg (α:=ku->H->Prop) λσ' h3=> ∃u3,jD S0 u2 h2 u3 h3/\σ' 0= .pointer (some ⟨f,0,none⟩)/\σ' 3= .pointer (some ⟨h.size,0,none⟩)/\σ' 4= .pointer (some ⟨h.size+1,0,none⟩)/\σ' 5= .pointer (some ⟨h.size+2,0,none⟩)/\h3.size=h.size+3/\jR u3 h3 h.size [str a.1,.slice aa a.2.1.length ac,Jx JT a.2.2]/\jR u3 h3 (h.size+1) [Jx JT 0,.slice none 0 0]/\jR u3 h3 (h.size+2) [Jx JT (lW ps a.1),.slice none 0 0]
 refine vX M ?_ ?_
 ·have sp:=jD.qZ S0 u2 h2 #[Jx JT (lW ps a.1),.slice none 0 0] 117
  have P3:=jR.newc (u:=u2) (h:=h2) [Jx JT (lW ps a.1),.slice none 0 0] 117
  rw[hz2]at P3
  have fin: ∀σ':ku,σ' 0= .pointer (some ⟨f,0,none⟩)->σ' 3= .pointer (some ⟨h.size,0,none⟩)->σ' 4= .pointer (some ⟨h.size+1,0,none⟩)->σ' 5= .pointer (some ⟨h2.size,0,none⟩)->M σ' (h2.push (.cells #[Jx JT (lW ps a.1),.slice none 0 0] 117)):=λσ' g0 g4 g6 g7=>by
   rw[hM]
   exact⟨_,sp,g0,g4,g6,by rw[g7,hz2],zY,B1.sZ sp,B2.sZ sp,by rw[hz2];exact P3⟩
  simp(disch:=first|omega|simp only[zz];try omega;done) only[↓reduceIte,go_sem,vQ,B1.at,B1.2.1,hFb.at,hFb.2.1]
  refine⟨jC (.inl ⟨rfl,u2,vps,ps,a.1,rfl,hFp,zE,?_⟩),?_⟩
  ·simp(disch:=omega) only[↓reduceIte,go_sem,jN]
   exact fin _ zJ zJ zJ zJ
  ·have sp0:=jD.qZ S0 u2 h2 #[Jx JT 0,.slice none 0 0] 117
   refine jC (.inl ⟨rfl,_,vps,ps,a.1,rfl,hFp.mono sp0.ge,zE,?_⟩)
   simp(disch:=omega) only[↓reduceIte,go_sem,jN]
   exact fin _ zJ zJ zJ zJ
 intro σ3 h3 hM3
 rw[hM]at hM3
 obtain⟨u3,s23,g0,g3,g4,g5,hz3,A3,R3,P3⟩:=hM3
 clear hM M
 have F3:=hFb.sZ s23
 have D3:=hFB.sZ s23
 have st3:=st2.tZ s23
 have hf2:f<h.size:=by obtain⟨x,y,hb,-⟩:=hF.ex;exact hb.1
 have hb2:b<h.size+3:=by
  obtain⟨_,_,_,_,hb,-⟩:=D3.ex
  have:=hb.1;omega
 simp only[go_sem]
 obtain⟨I,hI⟩:=kg (α:=Nat->ku->H->Prop) λi σ h'=>σ 0= .pointer (some ⟨f,0,none⟩)/\σ 3= .pointer (some ⟨h.size,0,none⟩)/\σ 4= .pointer (some ⟨h.size+1,0,none⟩)/\σ 5= .pointer (some ⟨h.size+2,0,none⟩)/\σ 6= Jx JT i/\i<=a.2.1.length/\
  ∃u' w,jD S0 u h u' h'/\h.size+3<=h'.size/\jR u' h' f [vps,.pointer (some ⟨b,0,none⟩)]/\Am u' h' b cs/\jR u' h' h.size [str a.1,.slice aa a.2.1.length ac,Jx JT a.2.2]/\jR u' h' (h.size+1) [Jx JT 0,.slice none 0 0]/\jR u' h' (h.size+2) [Jx JT (lW ps a.1),w]/\lm (h.size+3) u' h' w ((a.2.1.take i).map λt=>wK cs (jU t))
 have hb0:b≠h.size+2->True:=λ_=>trivial
 refine jE I (λi=>a.2.1.length - i) 0 (by rw[hI];exact⟨by simp [jI,g0],by simp [jI,g3],by simp [jI,g4],by simp [jI,g5],zJ,aj _,u3,_,st3,zO,F3,D3,A3,R3,P3,.nil _ _ _⟩) ?_
 have hbf:b<h.size+2:=by
  obtain⟨_,_,_,_,hb,-⟩:=hFB.ex
  have:=hb.1;omega
 clear g0 g3 g4 g5 st3 hz3 A3 R3 P3 F3 D3 s23
 intro i σ h' hy
 rw[hI]at hy
 obtain⟨e0,e3,e4,e5,e6,hi,u',w,st,hz,F,D,A,R,P,ho⟩:=hy
 have al:=A.1
 have rl:=R.1
 have pl:=P.1
 have fl:=F.1
 by_cases hlt:i<a.2.1.length
 ·obtain⟨x,hs⟩: ∃x,a.2.1[i]? =some x:=⟨a.2.1[i],by simp [hlt]⟩
  obtain⟨pb,po,rfl,hpb,hpu,hpz,hpr⟩:=(haa.mono st.ge).row i x hs
  simp only[ko,jM.enc,lG,mQ,ax,aC]at hpr hpu hpz
  obtain⟨p0,p1,p2,p3⟩:=hpr
  obtain⟨wa,wc,rfl,-,-⟩:=ho.sl
  have hln:((a.2.1.take i).map λt=>wK cs (jU t)).length<=i:=by rw[aU,aR];exact eO _ _
  have htk:=nU (f:=λt=>wK cs (jU t)) hs
  obtain⟨Z,hZ⟩:=kg ((a.2.1.take i).map λt=>wK cs (jU t))
  rw[<-hZ]at ho hln htk P
  simp(disch:=first|omega|simp only[zz];try omega;done) only[↓reduceIte,go_sem,e0,e3,e5,e6,A.at,A.2.1,F.at,F.2.1,P.at,P.2.1,hlt,p0,p1,p2,p3]
  refine jC (.inr (.inl ⟨rfl,u',x,rfl,λu4 h4 s4=> ?_⟩))
  have P4:=P.sZ s4
  have F4:=F.sZ s4
  have D4:=D.sZ s4
  have p4l:=P4.1
  have f4l:=F4.1
  refine⟨by simp(disch:=first|omega|simp only[zz];try omega;done) only[↓reduceIte,go_sem,e0,e5,P4.at,P4.2.1,P.at,F4.at,F4.2.1,F.at],?_⟩
  simp only[↓reduceIte,go_sem,jN]
  refine jC (.inr (.inr ⟨rfl,u4,b,cs,jU x,rfl,D4,hac x (aF hs),λu5 h5 s5=> ?_⟩))
  have P5:=P4.sZ s5
  have p5l:=P5.1
  refine⟨by simp(disch:=first|omega|simp only[zz];try omega;done) only[↓reduceIte,go_sem,e5,P4.at,P5.at,P5.2.1],?_⟩
  have s45:=s4.tZ s5
  have st5:=st.tZ s45
  have ho5:=ho.sZ s45
  have hz5:=s45.ge.sz
  have hri:Rep.rep u5 h5 (wK cs (jU x)) [Jx JT (wK cs (jU x))]:=by rw[mG]
  simp(disch:=first|omega|simp only[zz];try omega;done) only[↓reduceIte,go_sem,e5,P5.at,P5.2.1]
  refine kW (e':=3) (cs:=[Jx JT (wK cs (jU x))]) rfl ho5 hri rfl rfl zO zO λa6 n6 c6 u6 h6 o6 s6 w6=>⟨jO,?_⟩
  have st6:=st5.own s6 λj hj=>by have:=ho5.ge hj;omega
  have nb: ∀j,j<h.size+3-> ¬jL (.slice wa Z.length wc) j:=λj h1 hj=>by have:=ho5.ge hj;omega
  have F6:=(F4.sZ s5).step s6 (nb _ zO)
  have D6:=(D4.sZ s5).step s6 (nb _ zO)
  have A6:=(A.sZ s45).step s6 (nb _ zO)
  have R6:=(R.sZ s45).step s6 (nb _ zO)
  have P6:=P5.step s6 (nb _ zO)
  have hz6:=s6.ge.sz
  obtain⟨xa6,xc6,hx6,-,-⟩:=o6.sl
  cases hx6
  obtain⟨W,hW⟩:=kg (Z++[wK cs (jU x)])
  have hWl:Z.length+1=W.length:=by rw[hW,ay];rfl
  rw[<-hW]at o6 htk ⊢
  have sw:=P6.stepSet (i:=1) (v:= .slice a6 W.length c6)
  have P7:jR u6 (ky h6 (h.size+2) 1 (.slice a6 W.length c6)) (h.size+2) [Jx JT (lW ps a.1),.slice a6 W.length c6]:=P6.set (i:=1) (v:= .slice a6 W.length c6) zP
  have n2: ∀j,j<h.size+2-> ¬j=h.size+2:=λj h1 e=>zO
  have F7:=F6.step sw (n2 _ zO)
  have D7:=D6.step sw (n2 _ hbf)
  have A7:=A6.step sw (n2 _ zO)
  have R7:=R6.step sw (n2 _ zO)
  have o7:=o6.step sw λb hb e=>by have e:b=h.size+2:=e;have:=o6.ge hb;omega
  have st7:=st6.own sw λj e=>by have e:j=h.size+2:=e;omega
  have hz7:=sw.ge.sz
  have p6l:=P6.1
  simp(disch:=omega) only[↓reduceIte,go_sem,e5,e6,P6.2.1,P6.2.2.1]
  refine⟨i+1,?_,zO⟩
  rw[hI]
  exact⟨by simp [jI,e0],by simp [jI,e3],by simp [jI,e4],by simp [jI,e5],zJ,hlt,u6,.slice a6 W.length c6,st7,zO,F7,D7,A7,R7,P7,by rw[htk];exact o7⟩
 ·obtain rfl:i=a.2.1.length:=zO
  rw[aK]at ho
  obtain⟨wa,wc,rfl,-,-⟩:=ho.sl
  obtain⟨W,hW⟩:=kg (a.2.1.map λt=>wK cs (jU t))
  have hrw:xA ps cs a=(lW ps a.1,W):=by rw[hW];rfl
  rw[<-hW]at ho P
  have b9:=R.sets (l:=[Jx JT (lW ps a.1),.slice wa W.length wc]) rfl
  have sw:=R.stepSets (l:=[Jx JT (lW ps a.1),.slice wa W.length wc]) rfl
  have hK':=hK _ _ [Jx JT (lW ps a.1),.slice wa W.length wc] (st.own sw λj e=>by have e:j=h.size+1:=e;omega) (by rw[hrw,xf];exact⟨_,rfl,ho.iZ.mono sw.ge⟩)
  simp(disch:=first|omega|simp only[zz];try omega;done) only[↓reduceIte,go_sem,e3,e4,e5,e6,A.at,A.2.1,P.at,P.2.1,R.2.1,R.2.2.1,b9.at,b9.2.1]
  exact hK'
def NW(vs:List Value)(h:H)(K:Value->H->Prop):Prop:= ∃(u:U) (a b:sj) (la lb:List Value),vs=[.agg la.toArray,.agg lb.toArray]/\Rep.rep u h a la/\Rep.rep u h b lb/\ ∀u' h',jD S0 u h u' h'->K (.bool (decide (a=b))) h'
theorem Je(hC:NW vs h K):kN Tryz.prog 84 vs h K KP:=by
 obtain⟨u,⟨a1,a2⟩,⟨b1,b2⟩,la,lb,rfl,ha,hb,hK⟩:=hC
 rw[xf]at ha hb
 obtain⟨va,rfl,ha⟩:=ha
 obtain⟨vb,rfl,hb⟩:=hb
 simp only at ha hb
 obtain⟨aa,ac,rfl,q1,q2⟩:=ha.sl
 obtain⟨ba,bc,rfl,q3,q4⟩:=hb.sl
 have hm:=lC
 refine jJ 137456255039 [(none,(.t 4))] (G:=(λ_ _ _ _ _=>False)) (λ_ _ _ _ _ h=>h.elim) Tryz.func84 ?_
 have s1:=jD.qZ S0 u h #[Jx JT a1,.slice aa a2.length ac] 117
 have s2:=jD.qZ S0 (ub u h.size 0) (h.push (.cells #[Jx JT a1,.slice aa a2.length ac] 117)) #[Jx JT b1,.slice ba b2.length bc] 117
 have st2:=s1.tZ s2
 have hK:=hK _ _ st2
 by_cases h1:a1=b1
 ·by_cases h2:a2.length=b2.length
  ·subst h1
   have h2i:(a2.length:Int)=b2.length:=zO
   simp(disch:=first|omega|simp only[zz];try omega;done) only[↓reduceIte,go_sem,ai h2i]
   obtain⟨I,hI⟩:=kg (α:=Nat->ku->H->Prop) λi σ h'=>σ 2= .pointer (some ⟨h.size,0,none⟩)/\σ 3= .pointer (some ⟨h.size+1,0,none⟩)/\σ 5= Jx JT i/\i<=a2.length/\a2.take i=b2.take i/\h'=(h.push (.cells #[Jx JT a1,.slice aa a2.length ac] 117)).push (.cells #[Jx JT a1,.slice ba b2.length bc] 117)
   refine jE I (λi=>a2.length - i) 0 (by rw[hI];exact⟨zJ,zJ,zJ,aj _,zP,rfl⟩) ?_
   intro i σ h' hy
   rw[hI]at hy
   obtain⟨e2,e3,e5,hi,heq,rfl⟩:=hy
   by_cases hlt:i<a2.length
   ·obtain⟨x,hx⟩:=qP hlt
    obtain⟨y,hy⟩: ∃y,b2[i]? =some y:=⟨b2[i],by rw[bf zO]⟩
    have hlt2:i<b2.length:=zO
    obtain⟨pb,po,rfl,hpb,hpu,hpz,hpr⟩:=(ha.mono st2.ge).row i x hx
    obtain⟨qb,qo,rfl,hqb,hqu,hqz,hqr⟩:=(hb.mono st2.ge).row i y hy
    simp only[mG,abF,qR,ax,aC]at hpr hpu hpz hqr hqu hqz
    by_cases hxy:x=y
    ·subst hxy
     simp(disch:=first|omega|simp only[zz];try omega;done) only[↓reduceIte,go_sem,e2,e3,e5,hlt,hlt2,hpr,hqr]
     refine⟨i+1,?_,zO⟩
     rw[hI]
     exact⟨by simp [jI,e2],by simp [jI,e3],zJ,hlt,by rw[aX,aX,hx,hy,heq],rfl⟩
    ·have hne:a2≠b2:=λe=>by subst e;rw[hx]at hy;exact hxy (bR hy)
     rw[aI (λe=>hne (ib e).2)]at hK
     simp(disch:=first|omega|simp only[zz];try omega;done) only[↓reduceIte,go_sem,e2,e3,e5,hlt,hlt2,hpr,hqr,ae hxy]
     exact hK
   ·obtain rfl:i=a2.length:=zO
    rw[aK,h2,aK]at heq
    subst heq
    rw[bq rfl]at hK
    simp(disch:=first|omega|simp only[zz];try omega;done) only[↓reduceIte,go_sem,e2,e5]
    exact hK
  ·have hne:a2≠b2:=λe=>h2 (by rw[e])
   have h2i: ¬(a2.length:Int)=b2.length:=zO
   rw[aI (λe=>hne (ib e).2)]at hK
   simp(disch:=first|omega|simp only[zz];try omega;done) only[↓reduceIte,go_sem,ai h1,ae h2i]
   exact hK
 ·rw[aI (λe=>h1 (ib e).1)]at hK
  simp(disch:=first|omega|simp only[zz];try omega;done) only[↓reduceIte,go_sem,ae h1]
  exact hK
def Rl(vs:List Value)(h:H)(K:Value->H->Prop):Prop:= ∃(u:U) (k:Nat) (v:Value) (L:List sj) (r:sj) (l:List Value),vs=[v,.agg l.toArray]/\lm k u h v L/\k<=h.size/\Rep.rep u h r l/\L.length<=1000000/\ ∀u' h' v',jD (jL v) u h u' h'->lm k u' h' v' (qF L r)->(∀b,jL v' b->jL v b\/h.size<=b)->K v' h'
def VC:lq:=λf vs h K _=>f=84/\NW vs h K
theorem KI:lQ Tryz.prog VC:=by
 rintro f vs h K KP ⟨rfl,hC⟩;exact Je hC
theorem Rm(hC:Rl vs h K):kN Tryz.prog 43 vs h K KP:=by
 obtain⟨u,k,v,L,r,l,rfl,ho,hkz,hr,hL,hK⟩:=hC
 obtain⟨va,vc,rfl,q1,q2⟩:=ho.sl
 have hrr:=hr
 rw[xf]at hr
 obtain⟨rv,rfl,hra⟩:=hr
 obtain⟨ra,rc,rfl,q3,q4⟩:=hra.sl
 have hm:=lC
 refine jJ 131643 [(none,(.t 4))] KI Tryz.func43 ?_
 have s1:=jD.qZ S0 u h #[Jx JT r.1,.slice ra r.2.length rc] 117
 have B1:=jR.newc (u:=u) (h:=h) [Jx JT r.1,.slice ra r.2.length rc] 117
 simp only[↓reduceIte,go_sem]
 obtain⟨I,hI⟩:=kg (α:=Nat->ku->H->Prop) λi σ h'=>σ 0= .slice va L.length vc/\σ 3= .pointer (some ⟨h.size,0,none⟩)/\σ 5= Jx JT i/\i<=L.length/\r ∉ L.take i/\ ∃u',jD S0 u h u' h'/\jR u' h' h.size [Jx JT r.1,.slice ra r.2.length rc]/\h.size+1<=h'.size
 refine jE I (λi=>L.length - i) 0 (by rw[hI];exact⟨zJ,zJ,zJ,aj _,zP,_,s1,B1,zY⟩) ?_
 intro i σ h' hy
 rw[hI]at hy
 obtain⟨e0,e3,e5,hi,hno,u',st,B,hz⟩:=hy
 have bl:=B.1
 have ho':=ho.sZ st
 by_cases hlt:i<L.length
 ·obtain⟨x,hx⟩:=qP hlt
  obtain⟨pb,po,rfl,hpb,hpu,hpz,hpr⟩:=ho'.iZ.row i x hx
  have hprs:=hpr
  rw[xf]at hpr
  obtain⟨xv,hpr,hxa⟩:=hpr
  have hcells:=hpr
  obtain⟨xa,xc,rfl,-,-⟩:=hxa.sl
  rw[hcells]at hprs
  simp only[ac7,CP,ax,aC]at hpr hpu hpz
  obtain⟨p0,p1⟩:=hpr
  simp(disch:=first|omega|simp only[zz];try omega;done) only[↓reduceIte,go_sem,e0,e3,e5,hlt,p0,p1,B.at,B.2.1]
  refine jC ⟨rfl,u',x,r,[Jx JT x.1,.slice xa x.2.length xc],[Jx JT r.1,.slice ra r.2.length rc],rfl,hprs,Rep.mono st.ge hrr,λu2 h2 s2=>⟨jO,?_⟩⟩
  have st2:=st.tZ s2
  by_cases he:x=r
  ·have hj:qF L r=L:=by unfold qF;rw[ah (by rw[<-he];exact aF hx)]
   simp only[↓reduceIte,go_sem,ai he,decide_true,e0]
   exact hK _ _ _ (st2.mono λ_ _ e=>e.elim) (by rw[hj];exact ho.sZ st2) λb hb=> .inl hb
  ·simp(disch:=omega) only[↓reduceIte,go_sem,ae he,decide_false,e5]
   refine⟨i+1,?_,zO⟩
   rw[hI]
   refine⟨by simp [jI,e0],by simp [jI,e3],zJ,hlt,?_,u2,st2,B.sZ s2,by have:=s2.ge.sz;omega⟩
   rw[aX,hx,bC,aV,aY]
   rintro (h|h)
   ·exact hno h
   ·exact he h.symm
 ·obtain rfl:i=L.length:=zO
  rw[aK]at hno
  have hj:qF L r=L++[r]:=by unfold qF;rw[af hno]
  simp(disch:=first|omega|simp only[zz];try omega;done) only[↓reduceIte,go_sem,e0,e3,e5,B.at,B.2.1]
  refine kW (e':=117) (cs:=[Jx JT r.1,.slice ra r.2.length rc]) rfl ho' (Rep.mono st.ge hrr) rfl rfl zO zO λa6 n6 c6 u6 h6 o6 s6 w6=>⟨jO,?_⟩
  simp only[↓reduceIte,go_sem,jN]
  have hst:jD (jL (.slice va L.length vc)) u h _ _:=st.mono λ_ _ e=>e.elim
  exact hK _ _ _ (hst.trans s6 λj _ e=>e) (by rw[hj];exact o6) λb hb=>by
   rcases w6 b hb with h|h
   ·exact .inl h
   ·exact .inr zO
end Go.Proofs.Z
namespace Edict
theorem EI(ps:List kK)(cs:List jK): ∀(l:List jZ) (V:lN) (x:jZ),yh ps cs V (l++[x])=yh ps cs V l++if x.1=1 then [(lW ps x.2.1.1,qL cs (l.foldl tu V) x.2.1.2.1)]else []
 |[],V,x=>by
  rw[aJ,yh,yh]
  simp only[List.foldl_nil,aJ,yh]
 |y::l,V,x=>by
  rw[aP,yh,yh,bN]
  by_cases h:y.1=1
  ·rw[ah h,ah h,EI ps cs l,aP]
  ·have:tu V y=V:=by unfold tu;rw[af h]
   rw[af h,af h,EI ps cs l,this]
theorem Jd(ps:List kK)(cs:List jK): ∀(l:List jZ) (V:lN),(yh ps cs V l).length<=l.length
 |[],_=>ak _
 |x::l,V=>by
  rw[yh,au]
  split
  ·have:=Jd ps cs l (tu V x);simp only[au];omega
  ·have:=Jd ps cs l V;omega
theorem Md{α β:Type}{p:α->Bool}{f:α->β}{l:List α}{i:Nat}{x:α}(h:l[i]? =some x):((l.take (i+1)).filter p).map f=((l.take i).filter p).map f++if p x then [f x]else []:=by
 rw[EO h,bH];congr 1;cases p x<;>rfl
end Edict
namespace Go.Ev
open Go Edict
end Go.Ev
namespace Go.Proofs.Z
open Go Go.Ev Edict
theorem FrB.n{u:U}{h:H}{f:Nat}{ps:List kK}{cs:List jK}(k:FrB u h f ps cs):VD h.size u h f ps cs:=by
 obtain⟨vps,b,h1,h2,h3⟩:=k.ex
 obtain⟨_,_,_,_,hb,-⟩:=h3.ex
 exact⟨vps,b,h1.1,hb.1,h1,h2,h3⟩
theorem VD.mono{n m:Nat}{u:U}{h:H}{f:Nat}{ps:List kK}{cs:List jK}(k:VD n u h f ps cs)(hm:n<=m):VD m u h f ps cs:=by
 obtain⟨vps,b,l1,l2,h1⟩:=k.ex
 exact⟨vps,b,zO,zO,h1⟩
def adk(ps:List kK)(cs:List jK)(ls:List jZ):oq:=(((0,[]):mV),yh ps cs [] ls,rO cs (jF ls) ls,wG ps cs (jF ls) ls,jF ls,0)
def Yo(vs:List Value)(h:H)(K:Value->H->Prop):Prop:= ∃(u:U) (f:Nat) (ps:List kK) (cs:List jK) (v:Value) (ls:List jZ),vs=[.pointer (some ⟨f,0,none⟩),v]/\FrB u h f ps cs/\jS u h v ls/\ls.length<=16/\(∀x∈ls,FL x/\x.2.1.2.1.length<=8/\ ∀t∈kQ x,t.1≠4->jU t∈cs)/\ ∀u' h' l',jD S0 u h u' h'->Rep.rep u' h' (adk ps cs ls) l'->K (.agg l'.toArray) h'
def adl:lq:=λf vs h K _=>(f=85/\Jg vs h K)\/(f=45/\EK vs h K)\/(f=86/\NZ vs h K)
theorem Rk:lQ Tryz.prog adl:=lY KJ (lY DJ (pX EJ))
theorem adm{ls:List jZ}(h: ∀x∈ls,x.2.1.2.1.length<=8)(hl:ls.length<=16):Ky ls<=128:=by
 have: ∀l:List jZ,(∀x∈l,x.2.1.2.1.length<=8)->Ky l<=8*l.length:=by
  intro l
  induction l with
  |nil=>intro _;simp [Ky]
  |cons x l ih=>
   intro hx
   have h1:=ih λy hy=>hx y (bg _ hy)
   have h2:Om x<=8:=hx x (bu ..)
   simp only[Ky,aS,iA,au]at h1 ⊢
   omega
 have:=this ls h
 omega
theorem ZY{vs:List Value}{h:H}{K:Value->H->Prop}{KP:List PanicEntry->H->Prop}(hC:Yo vs h K):kN Tryz.prog 44 vs h K KP:=by
 obtain⟨u,f,ps,cs,v,ls,rfl,hF,hl,h16,hx,hK⟩:=hC
 obtain⟨la,lc,rfl,q1,q2⟩:=hl.sl
 have hm:=lC
 have hFn:=hF.n
 have htot:=adm (λx hm=>(hx x hm).2.1) h16
 refine jJ 75557936064983371751411 [((some (.c1 (.ldn 7) (.t 4))),(.o1 (.ldn 7) (.t 4)))] Rk Tryz.func44 ?_ (by kernel_rfl) (by apply c0 rfl;repeat' first|apply cS|apply cK|apply cL|apply cX|(apply cC zD)|(conv=>lhs;cbv;try simp only[Kw]))
 have s1:=jD.qZ S0 u h #[Jx JT 0,.slice none 0 0,.slice none 0 0,.slice none 0 0,.slice none 0 0,.slice none 0 0,Jx JT 0] 87
 have B1:=jR.newc (u:=u) (h:=h) [Jx JT 0,.slice none 0 0,.slice none 0 0,.slice none 0 0,.slice none 0 0,.slice none 0 0,Jx JT 0] 87
 have s2:=jD.qZ S0 (ub u h.size 0) (h.push (.cells #[Jx JT 0,.slice none 0 0,.slice none 0 0,.slice none 0 0,.slice none 0 0,.slice none 0 0,Jx JT 0] 87)) #[Jx JT 0,.slice none 0 0,.slice none 0 0,.slice none 0 0,.slice none 0 0,.slice none 0 0,Jx JT 0] 87
 have B2:=jR.newc (u:=ub u h.size 0) (h:=h.push (.cells #[Jx JT 0,.slice none 0 0,.slice none 0 0,.slice none 0 0,.slice none 0 0,.slice none 0 0,Jx JT 0] 87)) [Jx JT 0,.slice none 0 0,.slice none 0 0,.slice none 0 0,.slice none 0 0,.slice none 0 0,Jx JT 0] 87
 have B1:=B1.sZ s2
 have st2:=s1.tZ s2
 simp only[↓reduceIte,go_sem]
 obtain⟨I,hI⟩:=kg (α:=Nat->ku->H->Prop) λi σ h'=>σ 0= .pointer (some ⟨f,0,none⟩)/\σ 1= .slice la ls.length lc/\σ 4= .pointer (some ⟨h.size,0,none⟩)/\σ 5= .pointer (some ⟨h.size+1,0,none⟩)/\σ 7= Jx JT i/\i<=ls.length/\
  ∃u' w,jD S0 u h u' h'/\h.size+2<=h'.size/\jR u' h' h.size [Jx JT 0,.slice none 0 0,.slice none 0 0,.slice none 0 0,.slice none 0 0,.slice none 0 0,Jx JT 0]/\jR u' h' (h.size+1) [Jx JT 0,.slice none 0 0,w,.slice none 0 0,.slice none 0 0,.slice none 0 0,Jx JT 0]/\lm (h.size+2) u' h' w (yh ps cs [] (ls.take i))/\lm (h.size+2) u' h' (σ 6) (jF (ls.take i))/\ ∀j,jL w j-> ¬jL (σ 6) j
 refine jE I (λi=>ls.length - i) 0 (by
  rw[hI]
  exact⟨zJ,zJ,zJ,zJ,zJ,aj _,_,_,st2,zY,B1,by simpa only[kw]using B2,.nil _ _ _,by simp only[jI];exact .nil _ _ _,λj hj=>by obtain⟨_,_,_,e⟩:=hj;cases e⟩) ?_
 clear s1 s2 B1 B2 st2
 intro i σ h' hy
 rw[hI]at hy
 obtain⟨e0,e1,e4,e5,e7,hi,u',w,st,hz,A,R,ho,hv,hdis⟩:=hy
 have al:=A.1
 have rl:=R.1
 have hV:=vM (ls.take i) []
 have hVt:Ky (ls.take i)<=Ky ls:=by
  have e:Ky ls=Ky (ls.take i)+Ky (ls.drop i):=by unfold Ky;rw[<-jq,<-bH,bV]
  omega
 have hVl:(jF (ls.take i)).length<=128:=by unfold jF;simp only[aA]at hV;omega
 have hPl:=Jd ps cs (ls.take i) []
 rw[aR]at hPl
 obtain⟨wa,wc,rfl,-,-⟩:=ho.sl
 obtain⟨sa,sc,hσ6,-,-⟩:=hv.sl
 rw[hσ6]at hv hdis
 by_cases hlt:i<ls.length
 ·obtain⟨x,hs⟩:=qP hlt
  obtain⟨hk3,h8,hcx⟩:=hx x (aF hs)
  obtain⟨pb,po,rfl,hpb,hpu,hpz,hpr⟩:=(hl.mono st.ge).row i x hs
  rw[kP]at hpr
  obtain⟨pv,hpr,hpv⟩:=hpr
  obtain⟨pva,pvc,rfl,r1,r2⟩:=hpv.sl
  simp only[jM.enc,lJ,pm,aP,aJ,ax,aC]at hpr hpu hpz
  obtain⟨p0,p1,p2,p3,-⟩:=hpr
  have htk:ls.take (i+1)=ls.take i++[x]:=by rw[aX,hs];rfl
  have hPn:=EI ps cs (ls.take i) [] x
  have hVn:jF (ls.take (i+1))=tu (jF (ls.take i)) x:=pI hs
  rw[<-htk]at hPn
  have hvF:(ls.take i).foldl tu []=jF (ls.take i):=rfl
  rw[hvF]at hPn
  obtain⟨Vi,hVi⟩:=kg (jF (ls.take i))
  obtain⟨Pi,hPi⟩:=kg (yh ps cs [] (ls.take i))
  rw[<-hVi]at hv hPn hVn hVl hdis hσ6
  rw[<-hPi]at ho hPn hPl R hdis
  by_cases hk:x.1=1
  ·have hvl:tu Vi x=x.2.1.2.1.foldl kV Vi:=by unfold tu;rw[ah hk]
   rw[hvl]at hVn
   rw[ah hk]at hPn
   have hat:kQ x=x.2.1.2.1:=by unfold kQ;rw[ah (.inl hk)];rfl
   rw[hat]at hcx
   have sX:=jD.qZ S0 u' h' #[Jx JT 0,.slice none 0 0] 82
   have X1:=jR.newc (u:=u') (h:=h') [Jx JT 0,.slice none 0 0] 82
   have stX:=st.tZ sX
   have hvX:=hv.sZ sX
   simp(disch:=omega) only[↓reduceIte,go_sem,e0,e1,hσ6,e7,hlt,p0,p1,p2,p3,ai hk]
   refine jC (.inl ⟨rfl,ub u' h'.size 0,h.size+2,f,ps,cs,x.2.1,[str x.2.1.1,.slice pva x.2.1.2.1.length pvc,Jx JT x.2.1.2.2],_,Vi,rfl,by rw[kE];exact⟨_,rfl,hpv.mono sX.ge⟩,(hFn.mono zO).sZ stX,hvX,zY,zO,zO,hcx,λu4 h4 l4 v4 s4 hr4 ho4 hb4=>⟨jO,?_⟩⟩)
   obtain⟨W4,hW4⟩:=kg (qL cs Vi x.2.1.2.1)
   obtain⟨V4,hV4⟩:=kg (x.2.1.2.1.foldl kV Vi)
   rw[<-hW4]at hPn hr4
   rw[<-hV4]at ho4 hVn
   have hrp:=hr4
   rw[nA]at hr4
   obtain⟨zv,rfl,hz4⟩:=hr4
   obtain⟨za,zc,rfl,-,-⟩:=hz4.sl
   have nv: ∀j,h'.size=j-> ¬jL (.slice sa Vi.length sc) j:=λj e hj=>by have:=hv.lt hj;omega
   have nl: ∀j,j<h.size+2-> ¬jL (.slice sa Vi.length sc) j:=λj e hj=>by have:=hv.ge hj;omega
   have st4:=stX.own s4 λj hj=>by have:=hv.ge hj;omega
   have A4:=(A.sZ sX).step s4 (nl _ zO)
   have R4:=(R.sZ sX).step s4 (nl _ zO)
   have X4:=X1.step s4 (nv _ rfl)
   have w4:=(ho.sZ sX).step s4 λb hb hb2=>hdis b hb hb2
   have hz4':=s4.ge.sz
   simp only[kw]at hz4'
   have x4l:=X4.1
   have r4l:=R4.1
   -- p
   have sw:=X4.stepSets (l:=[Jx JT (lW ps x.2.1.1),.slice za W4.length zc]) rfl
   have X5:=X4.sets (l:=[Jx JT (lW ps x.2.1.1),.slice za W4.length zc]) rfl
   have nX: ∀j,j<h.size+2-> ¬j=h'.size:=λj e1 e2=>zO
   have A5:=A4.step sw (nX _ zO)
   have R5:=R4.step sw (nX _ zO)
   have w5:=w4.step sw λb hb e=>by have e:b=h'.size:=e;have:=ho.lt hb;omega
   have v5:=ho4.step sw λb hb e=>by
    have e:b=h'.size:=e
    rcases hb4 b hb with h|h
    ·exact nv b e.symm h
    ·simp only[kw]at h;omega
   have st5:=st4.own sw λj e=>by have e:j=h'.size:=e;omega
   obtain⟨h5,hh5⟩:=kg (jW h4 h'.size 0 [Jx JT (lW ps x.2.1.1),.slice za W4.length zc])
   have hz5:=sw.ge.sz
   rw[<-hh5]at sw X5 A5 R5 w5 v5 st5 hz5
   have x5l:=X5.1
   have r5l:=R5.1
   have hr5:=Rep.mono sw.ge hrp
   simp(disch:=first|omega|simp only[zz];try omega;done) only[↓reduceIte,go_sem,e5,X4.2.1,X4.2.2.1,<-hh5,X5.at,X5.2.1,R5.at,R5.2.1]
   refine kW (e':=82) (cs:=[Jx JT (lW ps x.2.1.1),.slice za W4.length zc]) rfl w5 hr5 rfl rfl zO zO λa6 n6 c6 u6 h6 o6 s6 w6=>⟨jO,?_⟩
   have n6': ∀j,j<h.size+2-> ¬jL (.slice wa Pi.length wc) j:=λj e hj=>by have:=ho.ge hj;omega
   have A6:=A5.step s6 (n6' _ zO)
   have R6:=R5.step s6 (n6' _ zO)
   have d5: ∀b,jL v4 b-> ¬jL (.slice wa Pi.length wc) b:=λb hb hb2=>by
    rcases hb4 b hb with h|h
    ·exact hdis b hb2 h
    ·have:=ho.lt hb2;simp only[kw]at h;omega
   have v6:=v5.step s6 d5
   have st6:=st5.own s6 λj hj=>by have:=ho.ge hj;omega
   have hz6:=s6.ge.sz
   obtain⟨xa6,xc6,hx6,-,-⟩:=o6.sl
   cases hx6
   obtain⟨P6,hP6⟩:=kg (Pi++[(lW ps x.2.1.1,W4)])
   have hPl6:Pi.length+1=P6.length:=by rw[hP6,ay];rfl
   have d6: ∀b,jL (.slice a6 P6.length c6) b-> ¬jL v4 b:=λb hb hb2=>by
    rcases w6 b (by rw[<-hP6];exact hb)with h|h
    ·exact d5 b hb2 h
    ·have:=v5.lt hb2;omega
   rw[<-hP6]at o6 hPn ⊢
   have sv:=R6.stepSet (i:=2) (v:= .slice a6 P6.length c6)
   have R7:jR u6 (ky h6 (h.size+1) 2 (.slice a6 P6.length c6)) (h.size+1) [Jx JT 0,.slice none 0 0,.slice a6 P6.length c6,.slice none 0 0,.slice none 0 0,.slice none 0 0,Jx JT 0]:=R6.set (i:=2) (v:= .slice a6 P6.length c6) zP
   have A7:=A6.step sv λe=>by have e:h.size=h.size+1:=e;omega
   have o7:=o6.step sv λb hb e=>by have e:b=h.size+1:=e;have:=o6.ge hb;omega
   have v7:=v6.step sv λb hb e=>by have e:b=h.size+1:=e;have:=v6.ge hb;omega
   have st7:=st6.own sv λj e=>by have e:j=h.size+1:=e;omega
   have hz7:=sv.ge.sz
   have r6l:=R6.1
   simp(disch:=omega) only[↓reduceIte,go_sem,e5,e7,R6.2.1,R6.2.2.1]
   refine⟨i+1,?_,zO⟩
   rw[hI]
   exact⟨by simp [jI,e0],by simp [jI,e1],by simp [jI,e4],by simp [jI,e5],zJ,hlt,u6,.slice a6 P6.length c6,st7,zO,A7,R7,by rw[hPn];exact o7,by rw[hVn];simpa [jI]using v7,λj hj hj2=>d6 j hj (by simpa [jI]using hj2)⟩
  ·have hvl:tu Vi x=Vi:=by unfold tu;rw[af hk]
   rw[hvl]at hVn
   rw[af hk,bG]at hPn
   simp(disch:=omega) only[↓reduceIte,go_sem,e1,e7,hlt,p0,ae hk]
   refine⟨i+1,?_,zO⟩
   rw[hI]
   exact⟨by simp [jI,e0],by simp [jI,e1],by simp [jI,e4],by simp [jI,e5],zJ,hlt,u',_,st,hz,A,R,by rw[hPn];exact ho,by rw[hVn];simpa [jI,hσ6]using hv,λj hj hj2=>hdis j hj (by simpa [jI,hσ6]using hj2)⟩
 ·obtain rfl:i=ls.length:=zO
  rw[aK]at ho hv R hVl hdis hσ6
  obtain⟨V,hVV⟩:=kg (jF ls)
  obtain⟨P,hPP⟩:=kg (yh ps cs [] ls)
  have hbr:adk ps cs ls=(((0,[]):mV),P,rO cs V ls,wG ps cs V ls,V,0):=by rw[hPP,hVV];rfl
  rw[<-hVV]at hv hVl hdis hσ6
  rw[<-hPP]at ho R hdis
  have iP:=ho.iZ
  have iV:=hv.iZ
  have sv:=R.stepSet (i:=5) (v:= .slice sa V.length sc)
  have R1:jR u' (ky h' (h.size+1) 5 (.slice sa V.length sc)) (h.size+1) [Jx JT 0,.slice none 0 0,.slice wa P.length wc,.slice none 0 0,.slice none 0 0,.slice sa V.length sc,Jx JT 0]:=R.set (i:=5) (v:= .slice sa V.length sc) zP
  have A1:=A.step sv λe=>by have e:h.size=h.size+1:=e;omega
  have iP1:=iP.mono sv.ge
  have iV1:=iV.mono sv.ge
  have st1:=st.own sv λj e=>by have e:j=h.size+1:=e;omega
  have hz1:=sv.ge.sz
  simp only[↓reduceIte,go_sem,e1,e5,hσ6,e7,R.2.1,R.2.2.1]
  clear hI I
  obtain⟨J,hJ⟩:=kg (α:=Nat->ku->H->Prop) λi σ h'=>σ 0= .pointer (some ⟨f,0,none⟩)/\σ 1= .slice la ls.length lc/\σ 4= .pointer (some ⟨h.size,0,none⟩)/\σ 5= .pointer (some ⟨h.size+1,0,none⟩)/\σ 6= .slice sa V.length sc/\σ 9= Jx JT i/\i<=ls.length/\
   ∃u' t n,jD S0 u h u' h'/\h.size+2<=h'.size/\jR u' h' h.size [Jx JT 0,.slice none 0 0,.slice none 0 0,.slice none 0 0,.slice none 0 0,.slice none 0 0,Jx JT 0]/\jR u' h' (h.size+1) [Jx JT 0,.slice none 0 0,.slice wa P.length wc,t,n,.slice sa V.length sc,Jx JT 0]/\lm (h.size+2) u' h' t (rO cs V (ls.take i))/\lm (h.size+2) u' h' n (wG ps cs V (ls.take i))/\(∀j,jL t j-> ¬jL n j)/\jS u' h' (.slice wa P.length wc) P/\jS u' h' (.slice sa V.length sc) V
  refine jE J (λi=>ls.length - i) 0 (by
   rw[hJ]
   exact⟨by simp [jI,e0],by simp [jI,e1],by simp [jI,e4],by simp [jI,e5],by simp [jI,hσ6],zJ,aj _,u',_,_,st1,zO,A1,R1,.nil _ _ _,.nil _ _ _,(λj hj=>by obtain⟨_,_,_,e⟩:=hj;cases e),iP1,iV1⟩) ?_
  clear e0 e1 e4 e5 e7 hσ6 st A R ho hv hdis iP iV sv R1 A1 iP1 iV1 st1 hz1 al rl hz hi hlt hV hVt hPl
  intro i σ h' hy
  rw[hJ]at hy
  obtain⟨e0,e1,e4,e5,e6,e9,hi,u',tv,nv,st,hz,A,R,ot,on,hdis,iP,iV⟩:=hy
  have al:=A.1
  have rl:=R.1
  obtain⟨ta,tc,rfl,-,-⟩:=ot.sl
  obtain⟨na,nc,rfl,-,-⟩:=on.sl
  by_cases hlt:i<ls.length
  ·obtain⟨x,hs⟩:=qP hlt
   obtain⟨hk3,h8,hcx⟩:=hx x (aF hs)
   obtain⟨pb,po,rfl,hpb,hpu,hpz,hpr⟩:=(hl.mono st.ge).row i x hs
   rw[kP]at hpr
   obtain⟨pv,hpr,hpv⟩:=hpr
   obtain⟨pva,pvc,rfl,r1,r2⟩:=hpv.sl
   simp only[jM.enc,lJ,pm,aP,aJ,ax,aC]at hpr hpu hpz
   obtain⟨p0,p1,p2,p3,p4,p5,p6,p7,p8,p9,p10,p11,p12,p13⟩:=hpr
   have hTn:rO cs V (ls.take (i+1))=rO cs V (ls.take i)++if decide (x.1=3)then [Yx cs V x]else []:=Md hs
   have hNn:wG ps cs V (ls.take (i+1))=wG ps cs V (ls.take i)++if decide (x.1=2)then [Oi ps cs V x.2.1]else []:=Md hs
   have hTl:(rO cs V (ls.take i)).length<=16:=by
    unfold rO;rw[aU]
    refine aT (bW _ _) ?_
    rw[aR];omega
   have hNl:(wG ps cs V (ls.take i)).length<=16:=by
    unfold wG;rw[aU]
    refine aT (bW _ _) ?_
    rw[aR];omega
   obtain⟨Ti,hTi⟩:=kg (rO cs V (ls.take i))
   obtain⟨Ni,hNi⟩:=kg (wG ps cs V (ls.take i))
   rw[<-hTi]at ot hTn hTl R hdis
   rw[<-hNi]at on hNn hNl R hdis
   by_cases hk2:x.1=2
   ·have hn3: ¬x.1=3:=zO
    rw[aI hn3,af zP,bG]at hTn
    rw[bq hk2,ah rfl]at hNn
    have hat:kQ x=x.2.1.2.1:=by unfold kQ;rw[ah (.inr hk2)];rfl
    rw[hat]at hcx
    simp(disch:=omega) only[↓reduceIte,go_sem,e0,e1,e6,e9,hlt,p0,p1,p2,p3,ai hk2]
    refine jC (.inr (.inl ⟨rfl,u',f,ps,cs,x.2.1,[str x.2.1.1,.slice pva x.2.1.2.1.length pvc,Jx JT x.2.1.2.2],_,V,rfl,by rw[kE];exact⟨_,rfl,hpv⟩,hF.sZ st,iV,zO,hcx,λu4 h4 l4 s4 hr4=>⟨jO,?_⟩⟩))
    obtain⟨Q4,hQ4⟩:=kg (Oi ps cs V x.2.1)
    rw[<-hQ4]at hr4 hNn
    have hrp:=hr4
    rw[nA]at hr4
    obtain⟨zv,rfl,hz4⟩:=hr4
    obtain⟨za,zc,rfl,-,-⟩:=hz4.sl
    have sX:=jD.qZ S0 u4 h4 #[Jx JT Q4.1,.slice za Q4.2.length zc] 82
    have sX4:=s4.tZ sX
    have st5:=st.tZ sX4
    have A5:=A.sZ sX4
    have R5:=R.sZ sX4
    have R4:=R.sZ s4
    have t5:=ot.sZ sX4
    have n5:=on.sZ sX4
    have hr5:=Rep.mono sX.ge hrp
    have hz5:=s4.ge.sz
    have r4l:=R4.1
    simp(disch:=first|omega|simp only[zz];try omega;done) only[↓reduceIte,go_sem,e5,R4.at,R4.2.1]
    refine kW (e':=82) (cs:=[Jx JT Q4.1,.slice za Q4.2.length zc]) (by simp only[kw]) n5 hr5 rfl rfl zY zO λa6 n6 c6 u6 h6 o6 s6 w6=>⟨jO,?_⟩
    have nn: ∀j,j<h.size+2-> ¬jL (.slice na Ni.length nc) j:=λj e hj=>by have:=on.ge hj;omega
    have A6:=A5.step s6 (nn _ zO)
    have R6:=R5.step s6 (nn _ zO)
    have t6:=t5.step s6 λb hb hb2=>hdis b hb hb2
    have st6:=st5.own s6 λj hj=>by have:=on.ge hj;omega
    have hz6:=s6.ge.sz
    simp only[kw]at hz6
    obtain⟨xa6,xc6,hx6,-,-⟩:=o6.sl
    cases hx6
    obtain⟨N6,hN6⟩:=kg (Ni++[Q4])
    have hNl6:Ni.length+1=N6.length:=by rw[hN6,ay];rfl
    have d6: ∀b,jL (.slice ta Ti.length tc) b-> ¬jL (.slice a6 N6.length c6) b:=λb hb hb2=>by
     rcases w6 b (by rw[<-hN6];exact hb2)with h|h
     ·exact hdis b hb h
     ·have:=ot.lt hb;simp only[kw]at h;omega
    rw[<-hN6]at o6 hNn ⊢
    have sv:=R6.stepSet (i:=4) (v:= .slice a6 N6.length c6)
    have R7:jR u6 (ky h6 (h.size+1) 4 (.slice a6 N6.length c6)) (h.size+1) [Jx JT 0,.slice none 0 0,.slice wa P.length wc,.slice ta Ti.length tc,.slice a6 N6.length c6,.slice sa V.length sc,Jx JT 0]:=R6.set (i:=4) (v:= .slice a6 N6.length c6) zP
    have A7:=A6.step sv λe=>by have e:h.size=h.size+1:=e;omega
    have o7:=o6.step sv λb hb e=>by have e:b=h.size+1:=e;have:=o6.ge hb;omega
    have t7:=t6.step sv λb hb e=>by have e:b=h.size+1:=e;have:=t6.ge hb;omega
    have st7:=st6.own sv λj e=>by have e:j=h.size+1:=e;omega
    have hz7:=sv.ge.sz
    have r6l:=R6.1
    have g7:=(((sX4.ge).trans s6.ge).trans sv.ge)
    simp(disch:=omega) only[↓reduceIte,go_sem,e0,e1,e5,e6,e9,R6.2.1,R6.2.2.1]
    obtain⟨h7,hh7⟩:=kg (ky h6 (h.size+1) 4 (.slice a6 N6.length c6))
    rw[<-hh7]at R7 A7 o7 t7 st7 hz7 g7
    obtain⟨pb',po',hpe,hpb',hpu',hpz',hpr'⟩:=(hl.mono st7.ge).row i x hs
    simp only[aQ,Addr.mk.injEq,aC]at hpe
    obtain⟨rfl,rfl⟩:=hpe
    rw[kP]at hpr'
    obtain⟨pv',hpr',hpv'⟩:=hpr'
    simp only[jM.enc,lJ,pm,aP,aJ,ax,aC]at hpr' hpu' hpz'
    obtain⟨y0,-⟩:=hpr'
    have hzz:lS h7 pb=lS h6 pb:=by rw[hh7];exact Cg
    have hpz6:=hpz'
    rw[hzz]at hpz6
    simp(disch:=omega) only[go_sem,<-hh7,hlt,y0,ae hn3]
    refine⟨i+1,?_,zO⟩
    rw[hJ]
    exact⟨by simp [jI,e0],by simp [jI,e1],by simp [jI,e4],by simp [jI,e5],by simp [jI,e6],zJ,hlt,u6,_,_,st7,zO,A7,R7,by rw[hTn];exact t7,by rw[hNn];exact o7,d6,iP.mono g7,iV.mono g7⟩
   ·by_cases hk:x.1=3
    ·rw[bq hk,ah rfl]at hTn
     rw[aI hk2,af zP,bG]at hNn
     have hat:kQ x=[x.2.2.2.1,x.2.2.2.2.1]:=by unfold kQ;rw[af zO,ah hk]
     rw[hat]at hcx
     simp(disch:=omega) only[↓reduceIte,go_sem,e0,e1,e6,e9,hlt,p0,p5,p6,p7,p8,ae hk2,ai hk]
     refine jC (.inr (.inr ⟨rfl,u',f,ps,cs,x.2.2.2.1,_,V,rfl,hF.sZ st,iV,hcx _ zP,λu4 h4 s4=>⟨jO,?_⟩⟩))
     obtain⟨S1,hS1⟩:=kg (qE cs V x.2.2.2.1)
     rw[<-hS1]
     have hse:(uL.enc S1).toArray= #[.bool S1.1,Jx JT S1.2]:=rfl
     rw[hse]
     have sX:=jD.qZ S0 u4 h4 #[.bool S1.1,Jx JT S1.2] 158
     have X5:=jR.newc (u:=u4) (h:=h4) [.bool S1.1,Jx JT S1.2] 158
     have sX4:=s4.tZ sX
     have st5:=st.tZ sX4
     have hz5:=s4.ge.sz
     obtain⟨h5,hh5⟩:=kg (h4.push (.cells #[.bool S1.1,Jx JT S1.2] 158))
     have hsz5:h5.size=h4.size+1:=by rw[hh5];simp only[kw]
     obtain⟨u5,hu5⟩:=kg (ub u4 h4.size 0)
     rw[<-hh5,<-hu5]at sX sX4 st5
     have X5:jR u5 h5 h4.size [.bool S1.1,Jx JT S1.2]:=by rw[hu5,hh5];exact X5
     obtain⟨pb',po',hpe,hpb',hpu',hpz',hpr'⟩:=(hl.mono st5.ge).row i x hs
     simp only[aQ,Addr.mk.injEq,aC]at hpe
     obtain⟨rfl,rfl⟩:=hpe
     rw[kP]at hpr'
     obtain⟨pv',hpr',hpv'⟩:=hpr'
     simp only[jM.enc,lJ,pm,aP,aJ,ax,aC]at hpr' hpu' hpz'
     obtain⟨y0,y1,y2,y3,y4,y5,y6,y7,y8,y9,y10,y11,y12,y13⟩:=hpr'
     simp(disch:=omega) only[↓reduceIte,go_sem,<-hh5,e0,e1,e6,e9,hlt,y9,y10,y11,y12]
     refine jC (.inr (.inr ⟨rfl,u5,f,ps,cs,x.2.2.2.2.1,_,V,rfl,hF.sZ st5,iV.mono sX4.ge,hcx _ zP,λu6 h6 s6=>⟨jO,?_⟩⟩))
     obtain⟨S2,hS2⟩:=kg (qE cs V x.2.2.2.2.1)
     rw[<-hS2]
     have hse2:(uL.enc S2).toArray= #[.bool S2.1,Jx JT S2.2]:=rfl
     rw[hse2]
     have X6:=X5.sZ s6
     have sY:=jD.qZ S0 u6 h6 #[.bool S2.1,Jx JT S2.2] 158
     have Y7:=jR.newc (u:=u6) (h:=h6) [.bool S2.1,Jx JT S2.2] 158
     have X7:=X6.sZ sY
     have sXY:=(sX4.tZ s6).tZ sY
     have st7:=st.tZ sXY
     have hz6:=s6.ge.sz
     have x6l:=X6.1
     obtain⟨h7,hh7⟩:=kg (h6.push (.cells #[.bool S2.1,Jx JT S2.2] 158))
     have hsz7:h7.size=h6.size+1:=by rw[hh7];simp only[kw]
     obtain⟨u7,hu7⟩:=kg (ub u6 h6.size 0)
     rw[<-hh7,<-hu7]at sY sXY st7 X7
     have Y7:jR u7 h7 h6.size [.bool S2.1,Jx JT S2.2]:=by rw[hu7,hh7];exact Y7
     have x7l:=X7.1
     have y7l:=Y7.1
     have A7:=A.sZ sXY
     have R7:=R.sZ sXY
     have r7l:=R7.1
     have t7:=ot.sZ sXY
     have n7:=on.sZ sXY
     obtain⟨pb',po',hpe,hpb',hpu',hpz',hpr'⟩:=(hl.mono st7.ge).row i x hs
     simp only[aQ,Addr.mk.injEq,aC]at hpe
     obtain⟨rfl,rfl⟩:=hpe
     rw[kP]at hpr'
     obtain⟨pv',hpr',hpv'⟩:=hpr'
     simp only[jM.enc,lJ,pm,aP,aJ,ax,aC]at hpr' hpu' hpz'
     obtain⟨z0,z1,z2,z3,z4,-⟩:=hpr'
     have hrt:Rep.rep u7 h7 ((x.2.2.1,S1,S2):Test) [Jx JT x.2.2.1,.bool S1.1,Jx JT S1.2,.bool S2.1,Jx JT S2.2]:=by rw[Jb]
     have hTe:Yx cs V x=(x.2.2.1,S1,S2):=by rw[hS1,hS2];rfl
     rw[hTe]at hTn
     simp(disch:=first|omega|simp only[zz];try omega;done) only[↓reduceIte,go_sem,<-hh7,e1,e5,e9,hlt,z4,X7.at,X7.2.1,Y7.at,Y7.2.1,R7.at,R7.2.1]
     refine kW (e':=160) (cs:=[Jx JT x.2.2.1,.bool S1.1,Jx JT S1.2,.bool S2.1,Jx JT S2.2]) rfl t7 hrt rfl rfl zO zO λa8 n8 c8 u8 h8 o8 s8 w8=>⟨jO,?_⟩
     have nn: ∀j,j<h.size+2-> ¬jL (.slice ta Ti.length tc) j:=λj e hj=>by have:=ot.ge hj;omega
     have A8:=A7.step s8 (nn _ zO)
     have R8:=R7.step s8 (nn _ zO)
     have m8:=n7.step s8 λb hb hb2=>hdis b hb2 hb
     have st8:=st7.own s8 λj hj=>by have:=ot.ge hj;omega
     have hz8:=s8.ge.sz
     obtain⟨xa8,xc8,hx8,-,-⟩:=o8.sl
     cases hx8
     obtain⟨T8,hT8⟩:=kg (Ti++[((x.2.2.1,S1,S2):Test)])
     have hTl8:Ti.length+1=T8.length:=by rw[hT8,ay];rfl
     have d8: ∀b,jL (.slice a8 T8.length c8) b-> ¬jL (.slice na Ni.length nc) b:=λb hb hb2=>by
      rcases w8 b (by rw[<-hT8];exact hb)with h|h
      ·exact hdis b h hb2
      ·have:=on.lt hb2;omega
     rw[<-hT8]at o8 hTn ⊢
     have sv:=R8.stepSet (i:=3) (v:= .slice a8 T8.length c8)
     have R9:jR u8 (ky h8 (h.size+1) 3 (.slice a8 T8.length c8)) (h.size+1) [Jx JT 0,.slice none 0 0,.slice wa P.length wc,.slice a8 T8.length c8,.slice na Ni.length nc,.slice sa V.length sc,Jx JT 0]:=R8.set (i:=3) (v:= .slice a8 T8.length c8) zP
     have A9:=A8.step sv λe=>by have e:h.size=h.size+1:=e;omega
     have o9:=o8.step sv λb hb e=>by have e:b=h.size+1:=e;have:=o8.ge hb;omega
     have m9:=m8.step sv λb hb e=>by have e:b=h.size+1:=e;have:=m8.ge hb;omega
     have st9:=st8.own sv λj e=>by have e:j=h.size+1:=e;omega
     have hz9:=sv.ge.sz
     have r8l:=R8.1
     have g9:=(((sXY.ge).trans s8.ge).trans sv.ge)
     simp(disch:=omega) only[↓reduceIte,go_sem,e5,e9,R8.2.1,R8.2.2.1]
     refine⟨i+1,?_,zO⟩
     rw[hJ]
     exact⟨by simp [jI,e0],by simp [jI,e1],by simp [jI,e4],by simp [jI,e5],by simp [jI,e6],zJ,hlt,u8,_,_,st9,zO,A9,R9,by rw[hTn];exact o9,by rw[hNn];exact m9,d8,iP.mono g9,iV.mono g9⟩
    ·rw[aI hk,af zP,bG]at hTn
     rw[aI hk2,af zP,bG]at hNn
     simp(disch:=omega) only[↓reduceIte,go_sem,e1,e9,hlt,p0,ae hk,ae hk2]
     refine⟨i+1,?_,zO⟩
     rw[hJ]
     exact⟨by simp [jI,e0],by simp [jI,e1],by simp [jI,e4],by simp [jI,e5],by simp [jI,e6],zJ,hlt,u',_,_,st,hz,A,R,by rw[hTn];exact ot,by rw[hNn];exact on,hdis,iP,iV⟩
  ·obtain rfl:i=ls.length:=zO
   rw[aK]at ot on R
   have b9:=A.sets (l:=[Jx JT 0,.slice none 0 0,.slice wa P.length wc,.slice ta (rO cs V ls).length tc,.slice na (wG ps cs V ls).length nc,.slice sa V.length sc,Jx JT 0]) rfl
   have sw:=A.stepSets (l:=[Jx JT 0,.slice none 0 0,.slice wa P.length wc,.slice ta (rO cs V ls).length tc,.slice na (wG ps cs V ls).length nc,.slice sa V.length sc,Jx JT 0]) rfl
   have hK':=hK _ _ [Jx JT 0,.slice none 0 0,.slice wa P.length wc,.slice ta (rO cs V ls).length tc,.slice na (wG ps cs V ls).length nc,.slice sa V.length sc,Jx JT 0] (st.own sw λj e=>by have e:j=h.size:=e;omega) (by
    rw[hbr,sK]
    exact⟨_,_,_,_,_,rfl,jS.nil _ _,iP.mono sw.ge,ot.iZ.mono sw.ge,on.iZ.mono sw.ge,iV.mono sw.ge⟩)
   simp(disch:=first|omega|simp only[zz];try omega;done) only[↓reduceIte,go_sem,e1,e4,e5,e9,R.at,R.2.1,A.2.1,A.2.2.1,b9.at,b9.2.1]
   exact hK'
theorem wL.putC {k:Nat} {u u1 u2:U} {h h1 h2:H} {b mp mc:Nat} {vP vC vR vF vC':Value} {ps:List kK} {cs:List jK} {rs:List oq} {fs:List sj} {x:jK} (B:wL k u h b mp mc vP vC vR vF ps cs rs fs)
  (s1:jD (λi=>i=mc) u h u1 h1) (m1:wP ksC AJ h1 mc (nJ (cs++[x])) (cs++[x]).length) (o2:lm k u2 h2 vC' (cs++[x])) (s2:jD (jL vC) u1 h1 u2 h2) (hb: ∀i,jL vC' i->jL vC i\/h1.size<=i):
  wL k u2 (ky h2 b 1 vC') b mp mc vP vC' vR vF ps (cs++[x]) rs fs/\jD (qQ b mp mc vP vC vR vF) u h u2 (ky h2 b 1 vC'):=by
 have D:=B.dis
 simp only[Eg,bD,aH,cO,or_false,forall_eq_or_imp,forall_eq,List.Pairwise.nil,aC,false_imp_iff,implies_true]at D
 obtain⟨⟨d1,d2,d3,d4,d5,d6⟩,⟨d7,d8,d9,d10,d11⟩,⟨d12,d13,d14,d15⟩,⟨d16,d17,d18⟩,⟨d19,d20⟩,d21⟩:=D
 have X1:=B.blk.step s1 d2
 have X2:=X1.step s2 d4
 have P1:=B.oP.step s1 (λi hi e=>d12 (by have e:i=mc:=e;rw[<-e];exact hi))
 have P2:=P1.step s2 (λi hi e=>d16 i hi e)
 have R1:=B.oR.step s1 (λi hi e=>d14 (by have e:i=mc:=e;rw[<-e];exact hi))
 have R2:=R1.step s2 (λi hi e=>d19 i e hi)
 have F1:=B.oF.step s1 (λi hi e=>d15 (by have e:i=mc:=e;rw[<-e];exact hi))
 have F2:=F1.step s2 (λi hi e=>d20 i e hi)
 have mC2:=m1.step s2 d13
 have mP1:=B.mP.step s1 (λe=>d7 (by have e:mp=mc:=e;rw[e]))
 have mP2:=mP1.step s2 d9
 have hbl:=X1.1
 have hmcl:=m1.lt
 have hmpl:=mP1.lt
 have hnew: ∀j,j<h1.size-> ¬jL vC j-> ¬jL vC' j:=λj hj hn hv=>(hb j hv).elim hn (λh=>zO)
 have sw:jD (λi=>i=b) u2 h2 u2 (ky h2 b 1 vC'):=jD.set u2 h2 vC' rfl (by rw[X2.2.2.2.1];exact aj _)
 have sall:jD (qQ b mp mc vP vC vR vF) u h u2 (ky h2 b 1 vC'):=((s1.mono (S':=qQ b mp mc vP vC vR vF) (λi _ e=> .inr (.inr (.inl e)))).trans s2 (λi _ hi=> .inr (.inr (.inr (.inr (.inl hi)))))).trans sw (λi _ e=> .inl e)
 have hC'b: ¬jL vC' b:=hnew b hbl d4
 have hpl: ∀j,jL vP j-> ¬jL vC' j:=λj hj=>hnew j (P1.lt hj) (λhv=>d16 j hj hv)
 have hrl: ∀j,jL vR j-> ¬jL vC' j:=λj hj=>hnew j (R1.lt hj) (λhv=>d19 j hv hj)
 have hfl: ∀j,jL vF j-> ¬jL vC' j:=λj hj=>hnew j (F1.lt hj) (λhv=>d20 j hv hj)
 refine⟨⟨X2.set (i:=1) (v:=vC') zP,nL P2 d3 X2.2.2.2.1,nL o2 hC'b X2.2.2.2.1,nL R2 d5 X2.2.2.2.1,nL F2 d6 X2.2.2.2.1,mP2.step sw (λe=>d1 (by have e:mp=b:=e;rw[e])),mC2.step sw (λe=>d2 (by have e:mc=b:=e;rw[e])),?_,B.kb,B.kp,B.kc⟩,sall⟩
 simp only[Eg,bD,aH,cO,or_false,forall_eq_or_imp,forall_eq,List.Pairwise.nil,aC,false_imp_iff,implies_true]
 exact⟨⟨d1,d2,d3,hC'b,d5,d6⟩,⟨d7,d8,hnew mp hmpl d9,d10,d11⟩,⟨d12,hnew mc hmcl d13,d14,d15⟩,⟨hpl,d17,d18⟩,⟨λj hv hj=>hrl j hj hv,λj hv hj=>hfl j hj hv⟩,d21⟩
def Kh(vs:List Value)(h:H)(K:Value->H->Prop):Prop:= ∃(k:Nat) (u:U) (b mp mc:Nat) (v vP vC vR vF:Value) (tl:List jM) (ps:List kK) (cs:List jK) (rs:List oq) (fs:List sj),vs=[.pointer (some ⟨b,0,none⟩),v]/\jS u h v tl/\wL k u h b mp mc vP vC vR vF ps cs rs fs/\
 cs.length<=65536/\k<=h.size/\(∀t∈tl,Rep.wf (jU t))/\
 ∀u' h' vC',jD (qQ b mp mc vP vC vR vF) u h u' h'->wL k u' h' b mp mc vP vC' vR vF ps (pG cs tl).1 rs fs->(∀i,jL vC' i->jL vC i\/h.size<=i)->(pG cs tl).1.length<=65536->
  K (.tuple #[.agg (jM.enc ((pG cs tl).2.getD JP)).toArray,.bool (pG cs tl).2.isSome]) h'
theorem aaT(cs:List jK)(t:jM)(l:List jM):pG cs (t::l)=if t.1≠4/\jU t ∉ cs/\65536<=cs.length then(cs,some t)else pG (pR cs t) l:=rfl
def WM:lq:=λf vs h K _=>(f=69/\rR vs h K)\/(f=70/\adP vs h K)
theorem Lb:lQ Tryz.prog WM:=lY CB (pX aaB)
theorem Tt{vs:List Value}{h:H}{K:Value->H->Prop}{KP:List PanicEntry->H->Prop}(hC:Kh vs h K):kN Tryz.prog 29 vs h K KP:=by
 obtain⟨k,u,b,mp,mc,v,vP,vC,vR,vF,tl,ps,cs,rs,fs,rfl,hl,B,hlen,hkh,hwf,hK⟩:=hC
 obtain⟨la,lc,rfl,q1,q2⟩:=hl.sl
 have hm:=lC
 refine jJ 9011597303477683 [((some (.c1 (.ldn 4) (.t 4))),(.o1 (.ldn 4) (.t 4))),(none,(.t 5))] Lb Tryz.func29 ?_ (by kernel_rfl) (by apply c0 rfl;repeat' first|apply cS|apply cK|apply cL|apply cX|(apply cC zD)|(conv=>lhs;cbv;try simp only[Kw]))
 simp only[↓reduceIte,go_sem]
 have sA:jD S0 u h (ub u h.size 0) (h.push (.cells #[Jx JT 0,Jx JT 0,str [],Jx JT 0] 74)):=jD.qZ S0 u h _ _
 have XA:jR (ub u h.size 0) (h.push (.cells #[Jx JT 0,Jx JT 0,str [],Jx JT 0] 74)) h.size [Jx JT 0,Jx JT 0,str [],Jx JT 0]:=(jR.mk zY zE zE (by repeat (first|(refine lU ?_;simp only[];done)|apply kG)) zE)
 have BA:=B.step sA (λ_ _ h=>h)
 obtain⟨I,hI⟩:=kg (α:=Nat->ku->H->Prop) λi σ h'=>σ 0= .pointer (some ⟨b,0,none⟩)/\σ 4= .pointer (some ⟨h.size,0,none⟩)/\σ 13= .slice la tl.length lc/\σ 14= Jx JT tl.length/\σ 15= Jx JT i/\i<=tl.length/\
  ∃(u':U) (vi:Value) (ci:List jK),jD (qQ b mp mc vP vC vR vF) u h u' h'/\wL k u' h' b mp mc vP vi vR vF ps ci rs fs/\(∀j,jL vi j->jL vC j\/h.size<=j)/\ci.length<=65536/\jR u' h' h.size [Jx JT 0,Jx JT 0,str [],Jx JT 0]/\ ¬jL vi h.size/\pG cs tl=pG ci (tl.drop i)
 refine jE I (λi=>tl.length - i) 0 (by
  rw[hI]
  exact⟨zJ,zJ,zJ,zJ,zJ,aj _,_,vC,cs,sA.mono (λ_ _ h=>h.elim),BA,λj hj=> .inl hj,hlen,XA,λhj=>by have:=B.oC.lt hj;omega,rfl⟩) ?_
 intro i σ h' hy
 rw[hI]at hy
 obtain⟨e0,e4,e13,e14,e15,hi,u',vi,ci,st,B',hvi,hcl,X,hnX,heq⟩:=hy
 have hbh:=B.blk.1
 by_cases hlt:i<tl.length
 ·obtain⟨t,hs⟩:=qP hlt
  have hdr:tl.drop i=t::tl.drop (i+1):=by
   obtain⟨hi',rfl⟩:=aB.1 hs
   exact aN hi'
  rw[hdr,aaT]at heq
  have hwt:=hwf t (aF hs)
  obtain⟨tb,to,rfl,htb,htu,htz,htr⟩:=(hl.mono st.ge).row i t hs
  rw[ko]at htr
  simp only[jM.enc,lG,mQ,ax,aC]at htr htu htz
  obtain⟨t0,t1,t2,t3⟩:=htr
  have sp:=jD.qZ S0 u' h' #[Jx JT t.1,Jx JT t.2.1,str t.2.2.1,Jx JT t.2.2.2] 74
  have Y:jR (ub u' h'.size 0) (h'.push (.cells #[Jx JT t.1,Jx JT t.2.1,str t.2.2.1,Jx JT t.2.2.2] 74)) h'.size [Jx JT t.1,Jx JT t.2.1,str t.2.2.1,Jx JT t.2.2.2]:=(jR.mk zY zE zE (by repeat (first|(refine lU ?_;simp only[];done)|apply kG)) zE)
  have Bp:=B'.step sp (λ_ _ h=>h)
  have Xp:=X.sZ sp
  have next: ∀(σ':ku) (u3:U) (h3:H) (vj:Value) (cj:List jK),σ' 0=σ 0->σ' 4=σ 4->σ' 13=σ 13->σ' 14=σ 14->σ' 15= Jx JT ((i:Int)+1)->jD (qQ b mp mc vP vC vR vF) u h u3 h3->wL k u3 h3 b mp mc vP vj vR vF ps cj rs fs->(∀j,jL vj j->jL vC j\/h.size<=j)->cj.length<=65536->
    jR u3 h3 h.size [Jx JT 0,Jx JT 0,str [],Jx JT 0]-> ¬jL vj h.size->pG cs tl=pG cj (tl.drop (i+1))-> ∃y,I y σ' h3/\tl.length - y<tl.length - i:=λσ' u3 h3 vj cj g0 g4 g13 g14 g15 s3 B3 hb3 l3 X3 n3 q3=>by
   refine⟨i+1,?_,zO⟩
   rw[hI]
   exact⟨by rw[g0,e0],by rw[g4,e4],by rw[g13,e13],by rw[g14,e14],g15,hlt,u3,vj,cj,s3,B3,hb3,l3,X3,n3,q3⟩
  by_cases hk:t.1=4
  ·have hvt:pR ci t=ci:=by unfold pR;rw[ah (.inl hk)]
   rw[af (λh=>h.1 hk),hvt]at heq
   simp(disch:=omega) only[↓reduceIte,go_sem,e13,e14,e15,hlt,t0,t1,t2,t3,ai hk]
   exact next _ _ _ vi ci zJ zJ zJ zJ zJ (st.tZ sp) Bp hvi hcl Xp hnX heq
  ·simp(disch:=omega) only[↓reduceIte,go_sem,e13,e14,e15,hlt,t0,t1,t2,t3,ae hk]
   refine jC (.inl ⟨rfl,ub u' h'.size 0,t,rfl,λu1 h1 s1=>⟨jO,?_⟩⟩)
   have B1:=Bp.step s1 (λ_ _ h=>h)
   have X1:=Xp.sZ s1
   have Y1:=Y.sZ s1
   have sq:=jD.qZ S0 u1 h1 #[Jx JT t.1,Jx JT t.2.1,str t.2.2.1] 108
   have Z:jR (ub u1 h1.size 0) (h1.push (.cells #[Jx JT t.1,Jx JT t.2.1,str t.2.2.1] 108)) h1.size [Jx JT t.1,Jx JT t.2.1,str t.2.2.1]:=(jR.mk zY zE zE (by repeat (first|(refine lU ?_;simp only[];done)|apply kG)) zE)
   have B2:=B1.step sq (λ_ _ h=>h)
   have X2:=X1.sZ sq
   have Y2:=Y1.sZ sq
   have st2:=((st.tZ sp).tZ s1).tZ sq
   obtain⟨z1,z2,z3,z4,z5,z6,z7,z8,z9⟩:=B1.open
   have hy1:=Y1.1
   have Ub:=X1.1
   simp(disch:=omega) only[↓reduceIte,go_sem,e0,z1,z8]
   have hbl:=B1.blk.1
   refine wm (ks:=ksC) (enc:=AJ) (s:=jU t) AL (Gq hwt) B2.mC ⟨jO,?_⟩
   by_cases hin:jU t∈ci
   ·obtain⟨n,hn⟩: ∃n,nJ ci (jU t)=some n:=dC.1 (yo.2 hin)
    have hvt:pR ci t=ci:=by unfold pR;rw[ah (.inr hin)]
    rw[af (λh=>h.2.1 hin),hvt]at heq
    rw[hn]
    simp only[mr,bv,dM,bZ]
    simp(disch:=first|omega|simp only[zz];try omega;done) only[↓reduceIte,go_sem,e0,z1,z8,Z.at,Z.2.1]
    refine jC (.inr ⟨rfl,ub u1 h1.size 0,mc,ci,jU t,rfl,B2.mC,zO,hwt,λ_ u3 h3 s3=>⟨jO,?_⟩,λhno=>absurd hin hno⟩)
    simp(disch:=omega) only[↓reduceIte,go_sem,e15]
    exact next _ _ _ vi ci zJ zJ zJ zJ zJ (st2.tZ s3) (B2.step s3 (λ_ _ h=>h)) hvi hcl (X2.sZ s3) hnX heq
   ·have hn:nJ ci (jU t)=none:=by unfold nJ;rw[af hin]
    rw[hn]
    simp only[mr,bv,cZ,dR]
    simp(disch:=omega) only[↓reduceIte,go_sem,e0,z1,z8]
    have hmc:=B2.mC
    refine wu hmc ⟨jO,?_⟩
    have Uc:=X2.1
    have hy2:=Y2.1
    by_cases h6:65536<=ci.length
    ·rw[ah ⟨hk,hin,h6⟩]at heq
     simp(disch:=first|omega|simp only[zz];try omega;done) only[↓reduceIte,go_sem,e4,ai (show(65536:Int)<=ci.length by omega),Y2.at,Y2.2.1,X2.2.1,X2.2.2.1]
     obtain⟨y0,y1,y2,y3,y4⟩:=adR (v0:= Jx JT t.1) (v1:= Jx JT t.2.1) (v2:=str t.2.2.1) (v3:= Jx JT t.2.2.2) X1.2.1
     have hXl:h.size<(jW h1 h.size 0 [Jx JT t.1,Jx JT t.2.1,str t.2.2.1,Jx JT t.2.2.2]).size:=by rw[lI];exact Ub
     rw[zK hXl,uO hXl,uO hXl,uO hXl,uO hXl,y0,y1,y2,y3,y4]
     refine⟨ak _,?_⟩
     have sw:=jD.sets (S:=λi=>i=h.size) u1 h1 [Jx JT t.1,Jx JT t.2.1,str t.2.2.1,Jx JT t.2.2.2] (b:=h.size) (o:=0) rfl (by rw[X1.2.2.2.1];exact ak _) (by rw[X1.2.1];simp)
     have Bw:=B1.step sw (λj hj e=>by
      have e:j=h.size:=e
      rcases hj with rfl|rfl|rfl|hj|hj|hj|hj
      ·omega
      ·have:=B.mP.lt;omega
      ·have:=B.mC.lt;omega
      ·have:=B.oP.lt hj;omega
      ·exact hnX (by rw[<-e];exact hj)
      ·have:=B.oR.lt hj;omega
      ·have:=B.oF.lt hj;omega)
     have sz:=jD.qZ S0 u1 (jW h1 h.size 0 [Jx JT t.1,Jx JT t.2.1,str t.2.2.1,Jx JT t.2.2.2]) #[Jx JT t.1,Jx JT t.2.1,str t.2.2.1] 108
     have:=hK _ _ vi ((((st.tZ sp).tZ s1).trans sw (λj hj e=>by have e:j=h.size:=e;omega)).tZ sz) (by rw[heq];exact Bw.step sz (λ_ _ h=>h)) hvi (by rw[heq];exact hcl)
     rw[heq]at this
     exact this
    ·rw[af (λh=>h6 h.2.2)]at heq
     have hvt:pR ci t=ci++[jU t]:=by unfold pR;rw[af (λh=>h.elim hk hin)]
     rw[hvt]at heq
     simp(disch:=first|omega|simp only[zz];try omega;done) only[↓reduceIte,go_sem,e0,ae (show¬(65536:Int)<=ci.length by omega),z1,z8,Z.at,Z.2.1]
     refine jC (.inr ⟨rfl,ub u1 h1.size 0,mc,ci,jU t,rfl,hmc,zO,hwt,λhq=>absurd hq hin,λ_ u3 h3 s3 m3=>⟨jO,?_⟩⟩)
     have D:=B2.dis
     simp only[Eg,bD,aH,cO,or_false,forall_eq_or_imp,forall_eq,List.Pairwise.nil,aC,false_imp_iff,implies_true]at D
     have Y3:=B2.blk.step s3 D.1.2.1
     have hmcl:=B1.mC.lt
     have Z3:=Z.step s3 (λe=>by have e:h1.size=mc:=e;omega)
     have X3:=X2.step s3 (λe=>by have e:h.size=mc:=e;have:=B.mC.lt;omega)
     have o3:=B2.oC.step s3 (λj hj e=>D.2.2.1.2.1 (by have e:j=mc:=e;rw[<-e];exact hj))
     have hk3:k<=h3.size:=aT B2.kb (dQ Y3.1)
     have hyl:=Y3.1
     have hzl:=Z3.1
     simp(disch:=first|omega|simp only[zz];try omega;done) only[↓reduceIte,go_sem,e0,Z3.at,Z3.2.1,Y3.at,Y3.2.1]
     refine kW rfl o3 (x:=jU t) (cs:=[Jx JT t.1,Jx JT t.2.1,str t.2.2.1]) (by rw[mZ];rfl) rfl rfl hk3 zO λa n c u4 h4 o4 s4 b4=>⟨jO,?_⟩
     obtain⟨B4,st4⟩:=B2.putC s3 (by simpa using m3) o4 s4 b4
     have w1:lS h4 b=6:=by rw[(s4.ge.hs b Y3.1).1];exact Y3.2.1
     have w2:tJ h4 b=(0,0):=by rw[(s4.ge.hs b Y3.1).2];exact Y3.2.2.1
     have hX4: ¬jL vi h.size:=hnX
     have X4:=X3.step s4 hX4
     have hz2:=st2.ge.sz
     have hz3:=s3.ge.sz
     have hxb:b≠h.size:=λe=>zO
     simp(disch:=omega) only[↓reduceIte,go_sem,e0,e15,w1,w2]
     refine next _ _ _ _ (ci++[jU t]) zJ zJ zJ zJ zJ ?_ B4 (λj hj=> ?_) (by simp;omega) (X4.step (jD.set (S:=λi=>i=b) u4 h4 _ rfl (by rw[(Y3.step s4 D.1.2.2.2.1).2.2.2.1];exact aj _)) (λe=>hxb (by have e:h.size=b:=e;rw[e]))) (λhj=> ?_) heq
     ·refine st2.trans st4 (λj hj hB=> ?_)
      rcases hB with hB|hB|hB|hB|hB|hB
      ·exact .inl hB
      ·exact .inr (.inl hB)
      ·exact .inr (.inr (.inl hB))
      ·exact .inr (.inr (.inr (.inl hB)))
      ·exact .inr (.inr (.inr (.inr (.inl ((hvi j hB).elim id (λh=>zO))))))
      ·exact .inr (.inr (.inr (.inr (.inr hB))))
     ·rcases b4 j hj with hB|hB
      ·exact hvi j hB
      ·exact .inr zO
     ·rcases b4 _ hj with hB|hB
      ·exact hnX hB
      ·have:=X2.1;omega
 ·obtain rfl:i=tl.length:=zO
  rw[bB]at heq
  have heq:pG cs tl=(ci,none):=heq
  simp only[↓reduceIte,go_sem,e4,e14,e15,X.2.1,X.2.2.1]
  obtain⟨z0,z1,z2,z3,z4⟩:=adR (v0:= Jx JT 0) (v1:= Jx JT 0) (v2:=str []) (v3:= Jx JT 0) X.2.1
  rw[z0,z1,z2,z3,z4]
  refine⟨ak _,?_⟩
  have sw:=jD.sets (S:=λi=>i=h.size) u' h' [Jx JT 0,Jx JT 0,str [],Jx JT 0] (b:=h.size) (o:=0) rfl (by rw[X.2.2.2.1];exact ak _) (by rw[X.2.1];simp)
  have Bw:=B'.step sw (λj hj e=>by
   have e:j=h.size:=e
   rcases hj with rfl|rfl|rfl|hj|hj|hj|hj
   ·omega
   ·have:=B.mP.lt;omega
   ·have:=B.mC.lt;omega
   ·have:=B.oP.lt hj;omega
   ·exact hnX (by rw[<-e];exact hj)
   ·have:=B.oR.lt hj;omega
   ·have:=B.oF.lt hj;omega)
  have:=hK _ _ vi (st.trans sw (λj hj e=>by have e:j=h.size:=e;omega)) (by rw[heq];exact Bw) hvi (by rw[heq];exact hcl)
  rw[heq]at this
  exact this
end Go.Proofs.Z
namespace Edict
def slF(pos:Bool)(cs:List jK)(vi:lN)(tl:List jM):List uL:=if pos then rQ cs vi tl else tl.map (mi cs vi)
def slV(pos:Bool)(vi:lN)(tl:List jM):lN:=if pos then tl.foldl kV vi else vi
def Es(pos:Bool)(vi:lN)(t:jM):lN:=if pos then kV vi t else vi
theorem ad5(pos:Bool)(cs:List jK)(vi:lN)(t:jM)(l:List jM):slF pos cs vi (t::l)=mi cs (Es pos vi t) t::slF pos cs (Es pos vi t) l:=by
 cases pos<;>rfl
theorem ad6(pos:Bool)(vi:lN)(t:jM)(l:List jM):slV pos vi (t::l)=slV pos (Es pos vi t) l:=by
 cases pos<;>rfl
theorem agS(pos:Bool)(cs:List jK)(vi:lN):slF pos cs vi []=[]:=by cases pos<;>rfl
theorem agT(pos:Bool)(vi:lN):slV pos vi []=vi:=by cases pos<;>rfl
theorem agU(pos:Bool)(vi:lN)(t:jM):(Es pos vi t).length<=vi.length+1:=by
 unfold Es;split
 ·exact Sc vi t
 ·omega
end Edict
namespace Go.Proofs.Z
open Go Go.Ev Edict
def yX(vs:List Value)(h:H)(K:Value->H->Prop):Prop:= ∃(k:Nat) (u:U) (b mp mc mv nx n:Nat) (v vP vC vR vF:Value) (tl:List jM) (ps:List kK) (cs:List jK) (rs:List oq) (fs:List sj) (vi:lN) (pos:Bool),
 vs=[.pointer (some ⟨b,0,none⟩),v,.map (some mv),.pointer (some ⟨nx,0,none⟩),.bool pos]/\jS u h v tl/\wL k u h b mp mc vP vC vR vF ps cs rs fs/\oI h mv (ol vi) n/\n<=vi.length/\
 (∀t∈tl,Rep.wf (jU t))/\vi.length+tl.length<=4194304/\
 (pos=true->jR u h nx [Jx JT vi.length]/\mv≠nx/\ ¬qQ b mp mc vP vC vR vF mv/\ ¬qQ b mp mc vP vC vR vF nx)/\
 ∀u' h' w n',jD (λi=>pos=true/\(i=mv\/i=nx)) u h u' h'->lm h.size u' h' w (slF pos cs vi tl)->oI h' mv (ol (slV pos vi tl)) n'->n'<=(slV pos vi tl).length->
  (pos=true->jR u' h' nx [Jx JT (slV pos vi tl).length])->K w h'
def Fg:lq:=λf vs h K _=>f=69/\rR vs h K
theorem OM:lQ Tryz.prog Fg:=by
 rintro f vs h K KP ⟨rfl,hC⟩;exact CB hC
theorem Kg{vs:List Value}{h:H}{K:Value->H->Prop}{KP:List PanicEntry->H->Prop}(hC:yX vs h K):kN Tryz.prog 33 vs h K KP:=by
 obtain⟨k,u,b,mp,mc,mv,nx,n,v,vP,vC,vR,vF,tl,ps,cs,rs,fs,vi,pos,rfl,hl,B,hM,hnv,hwf,hlen,hpos,hK⟩:=hC
 obtain⟨la,lc,rfl,q1,q2⟩:=hl.sl
 have hm:=lC
 refine jJ 4503599645191199 [(none,(.t 10))] OM Tryz.func33 ?_
 simp only[↓reduceIte,go_sem]
 obtain⟨I,hI⟩:=kg (α:=Nat->ku->H->Prop) λi σ h'=>σ 0= .pointer (some ⟨b,0,none⟩)/\σ 2= .map (some mv)/\σ 3= .pointer (some ⟨nx,0,none⟩)/\σ 4= .bool pos/\σ 16= .slice la tl.length lc/\σ 17= Jx JT tl.length/\σ 18= Jx JT i/\i<=tl.length/\
  ∃(u':U) (vj:lN) (nj:Nat) (acc:List uL),jD (λi=>pos=true/\(i=mv\/i=nx)) u h u' h'/\lm h.size u' h' (σ 11) acc/\oI h' mv (ol vj) nj/\nj<=vj.length/\(pos=true->jR u' h' nx [Jx JT vj.length])/\
   slF pos cs vi tl=acc++slF pos cs vj (tl.drop i)/\slV pos vi tl=slV pos vj (tl.drop i)/\vj.length<=vi.length+i/\acc.length=i
 refine jE I (λi=>tl.length - i) 0 (by
  rw[hI]
  exact⟨zJ,zJ,zJ,zJ,zJ,zJ,zJ,aj _,u,vi,n,[],.refl _ _ _,by simp only[jI];exact .nil _ _ _,hM,hnv,λhp=>(hpos hp).1,rfl,rfl,zO,rfl⟩) ?_
 intro i σ h' hy
 rw[hI]at hy
 obtain⟨e0,e2,e3,e4,e16,e17,e18,hi,u',vj,nj,acc,st,ho,hMj,hnj,hBj,hF,hV,hvl,hal⟩:=hy
 have B':=B.step st (λi hi hS=>by
  obtain⟨hp,rfl|rfl⟩:=hS
  ·exact(hpos hp).2.2.1 hi
  ·exact(hpos hp).2.2.2 hi)
 by_cases hlt:i<tl.length
 ·obtain⟨t,hs⟩:=qP hlt
  have hdr:tl.drop i=t::tl.drop (i+1):=by
   obtain⟨hi',rfl⟩:=aB.1 hs
   exact aN hi'
  rw[hdr,ad5]at hF
  rw[hdr,ad6]at hV
  have hwt:=hwf t (aF hs)
  obtain⟨tb,to,rfl,htb,htu,htz,htr⟩:=(hl.mono st.ge).row i t hs
  rw[ko]at htr
  simp only[jM.enc,lG,mQ,ax,aC]at htr htu htz
  obtain⟨t0,t1,t2,t3⟩:=htr
  have sp:=jD.qZ S0 u' h' #[Jx JT t.1,Jx JT t.2.1,str t.2.2.1,Jx JT t.2.2.2] 74
  have Y:jR (ub u' h'.size 0) (h'.push (.cells #[Jx JT t.1,Jx JT t.2.1,str t.2.2.1,Jx JT t.2.2.2] 74)) h'.size [Jx JT t.1,Jx JT t.2.1,str t.2.2.1,Jx JT t.2.2.2]:=(jR.mk zY zE zE (by repeat (first|(refine lU ?_;simp only[];done)|apply kG)) zE)
  have Bp:=B'.step sp (λ_ _ h=>h)
  have hop:=ho.sZ sp
  have hmp:=hMj.step sp (λh=>h)
  have stp:=st.tZ sp
  have hvj:=agU pos vj t
  have next: ∀(σ':ku) (u3:U) (h3:H) (n3:Nat),σ' 0=σ 0->σ' 2=σ 2->σ' 3=σ 3->σ' 4=σ 4->σ' 16=σ 16->σ' 17=σ 17->σ' 18= Jx JT ((i:Int)+1)->jD (λi=>pos=true/\(i=mv\/i=nx)) u h u3 h3->lm h.size u3 h3 (σ' 11) (acc++[mi cs (Es pos vj t) t])->
    oI h3 mv (ol (Es pos vj t)) n3->n3<=(Es pos vj t).length->(pos=true->jR u3 h3 nx [Jx JT (Es pos vj t).length])-> ∃y,I y σ' h3/\tl.length - y<tl.length - i:=λσ' u3 h3 n3 g0 g2 g3 g4 g16 g17 g18 s3 o3 m3 l3 b3=>by
   refine⟨i+1,?_,zO⟩
   rw[hI]
   exact⟨by rw[g0,e0],by rw[g2,e2],by rw[g3,e3],by rw[g4,e4],by rw[g16,e16],by rw[g17,e17],g18,hlt,u3,_,n3,_,s3,o3,m3,l3,b3,by rw[hF];simp,hV,zO,by simp [hal]⟩
  have hob: ∀j,jL (σ 11) j->h.size<=j:=λj hj=>ho.ge hj
  obtain⟨z1,z2,z3,z4,z5,z6,z7,z8,z9⟩:=B'.open
  by_cases hk:t.1=4
  ·have hsn:mi cs (Es pos vj t) t=(true,Ay (Es pos vj t) t.2.2.1):=by unfold mi;rw[ah hk]
   simp(disch:=omega) only[↓reduceIte,go_sem,e2,e16,e17,e18,hlt,t0,t1,t2,t3,ai hk]
   refine oz hmp ⟨jO,?_⟩
   have fin: ∀(r:List St) (Q:ku->H->Prop) (KP':List PanicEntry->H->Prop) (σ':ku) (u1:U) (h1:H) (n1 p:Nat),p=h1.size->jD (λi=>pos=true/\(i=mv\/i=nx)) u h u1 h1->lm h.size u1 h1 (σ 11) acc->oI h1 mv (ol (Es pos vj t)) n1->n1<=(Es pos vj t).length->(pos=true->jR u1 h1 nx [Jx JT (Es pos vj t).length])->
     (∀a n c u3 h3,lm h.size u3 h3 (.slice a n c) (acc++[mi cs (Es pos vj t) t])->jD (λi=>pos=true/\(i=mv\/i=nx)) u h u3 h3->oI h3 mv (ol (Es pos vj t)) n1->n1<=(Es pos vj t).length->(pos=true->jR u3 h3 nx [Jx JT (Es pos vj t).length])->kT Fg r Q KP' (nD σ' (some 69) (.slice a n c)) h3)->
     nZ Fg (.app 158 2 16 [.bool false,Jx JT 0]) (some 69) [] r Q KP' [σ 11,.slice (some ⟨p,0,none⟩) 1 1] σ' (h1.push (.cells #[.bool true,Jx JT (Ay (Es pos vj t) t.2.2.1)] 158)):=λr Q KP' σ' u1 h1 n1 p hp s1 o1 m1 l1 b1 hq=>
    kW hp o1 (x:=(true,Ay (Es pos vj t) t.2.2.1)) (cs:=[.bool true,Jx JT (Ay (Es pos vj t) t.2.2.1)]) (by rw[wC]) rfl rfl s1.ge.sz zO λa n c u3 h3 o3 s3 b3=>⟨by simp only[rE],by
     refine hq a n c u3 h3 (by rw[hsn];exact o3) (s1.trans s3 λj hj hB=>by have:=hob j hB;omega) (m1.step s3 λhj=>by have:=hob _ hj;have:=hM.lt;omega) l1 (λhp=>(b1 hp).step s3 λhj=>by have:=hob _ hj;have:=(hpos hp).1.1;omega)⟩
   have hle:(ol vj t.2.2.1).getD 0=Ay vj t.2.2.1:=rfl
   rw[hle]
   simp only[mr,bv]
   cases pos with
   |false=>
    have hst:Es false vj t=vj:=rfl
    simp(disch:=omega) only[↓reduceIte,go_sem,e4]
    refine fin _ _ _ _ _ _ nj _ (by simp only[kw]) stp hop (by rw[hst];exact hmp) (by rw[hst];exact hnj) (λhp=>by cases hp) λa n c u3 h3 o3 s3 m3 l3 b3=> ?_
    simp(disch:=omega) only[↓reduceIte,go_sem,e18]
    exact next _ u3 h3 nj zJ zJ zJ zJ zJ zJ zJ s3 (by simpa [jI]using o3) m3 l3 b3
   |true=>
    obtain⟨hb1,hne,hnb1,hnb2⟩:=hpos rfl
    have X:=hBj rfl
    have Xp:=X.sZ sp
    have hxl:=X.1
    have hml:=hMj.lt
    by_cases hnew:t.2.2.1=[95]\/t.2.2.1 ∉ vj
    ·have hst:Es true vj t=vj++[t.2.2.1]:=by
      show kV vj t=_
      unfold kV;rw[ah ⟨hk,hnew⟩]
     have hli:Ay (Es true vj t) t.2.2.1=vj.length:=by
      unfold Ay;rw[hst,Cw,ah rfl];rfl
     have hcase:(ol vj t.2.2.1).isSome=false\/((ol vj t.2.2.1).isSome=true/\t.2.2.1=[95]):=by
      cases hq:(ol vj t.2.2.1).isSome with
      |false=>exact .inl rfl
      |true=>exact .inr ⟨rfl,hnew.elim id λh=>absurd (JF.1 hq) h⟩
     rw[hli]at fin
     rcases hcase with hno|⟨hyes,h95⟩
     all_goals
      first
      |simp(disch:=first|omega|simp only[zz];try omega;done) only[↓reduceIte,go_sem,e2,e3,e4,hno,X.at,X.2.1]
      |simp(disch:=first|omega|simp only[zz];try omega;done) only[↓reduceIte,go_sem,e2,e3,e4,hyes,ai h95,X.at,X.2.1]
      refine xG (ub u' h'.size 0) hmp λh2 s2 m2=>⟨jO,?_⟩
      have em:zt (ol vj) t.2.2.1 (vj.length:Int)=ol (vj++[t.2.2.1]):=by
       funext s
       rw[Cw];rfl
      rw[em]at m2
      have X2:=Xp.step s2 (λe=>hne (by have e:nx=mv:=e;exact e.symm))
      have o2:=hop.step s2 (λj hj e=>by have e:j=mv:=e;have:=hob j hj;have:=hM.lt;omega)
      have Uc:=X2.1
      have sw:jD (λi=>i=nx) (ub u' h'.size 0) h2 (ub u' h'.size 0) (ky h2 nx 0 (Jx JT ((vj.length:Int)+1))):=jD.set _ h2 _ rfl (by rw[X2.2.2.2.1];exact ak _)
      have o3:=o2.step sw (λj hj e=>by have e:j=nx:=e;have:=hob j hj;have:=hb1.1;omega)
      have m3:=m2.step sw (λe=>hne (by have e:mv=nx:=e;exact e))
      have X3:=X2.set (i:=0) (v:= Jx JT ((vj.length:Int)+1)) zP
      have st3:jD (λi=>true=true/\(i=mv\/i=nx)) u h _ (ky h2 nx 0 (Jx JT ((vj.length:Int)+1))):=(stp.trans s2 (λj _ e=>⟨rfl,.inl e⟩)).trans sw (λj _ e=>⟨rfl,.inr e⟩)
      simp(disch:=first|omega|simp only[zz];try omega;done) only[↓reduceIte,go_sem,e3,X2.at,X2.2.1,X2.2.2.1]
      refine fin _ _ _ _ _ _ _ _ (by simp only[wS]) st3 o3 (by rw[hst];exact m3) (by rw[hst,ay];split<;>(simp only[au,aA];omega)) (λ_=>by rw[hst,ay];simpa using X3) λa n c u3 h3 o3 s3 m3 l3 b3=> ?_
      simp(disch:=omega) only[↓reduceIte,go_sem,e18]
      exact next _ u3 h3 _ zJ zJ zJ zJ zJ zJ zJ s3 (by simpa [jI]using o3) m3 l3 b3
    ·have hst:Es true vj t=vj:=by
      show kV vj t=_
      unfold kV;rw[af (λh=>hnew h.2)]
     have h95: ¬t.2.2.1=[95]:=λh=>hnew (.inl h)
     have hyes:(ol vj t.2.2.1).isSome=true:=JF.2 (fw λh=>hnew (.inr h))
     rw[hst]at fin
     simp(disch:=omega) only[↓reduceIte,go_sem,e4,hyes,ae h95]
     refine fin _ _ _ _ _ _ nj _ (by simp only[kw]) stp hop hmp hnj (λ_=>Xp) λa n c u3 h3 o3 s3 m3 l3 b3=> ?_
     simp(disch:=omega) only[↓reduceIte,go_sem,e18]
     exact next _ u3 h3 nj zJ zJ zJ zJ zJ zJ zJ s3 (by rw[hst];simpa [jI]using o3) (by rw[hst];exact m3) (by rw[hst];exact l3) (by rw[hst];exact b3)
  ·have hst:Es pos vj t=vj:=by unfold Es kV;split;rw[af (λh=>hk h.1)];rfl
   have hsn:mi cs (Es pos vj t) t=(false,wK cs (jU t)):=by unfold mi;rw[af hk]
   simp(disch:=omega) only[↓reduceIte,go_sem,e0,e16,e17,e18,hlt,t0,t1,t2,t3,ae hk,z1,z8]
   refine jC ⟨rfl,ub u' h'.size 0,t,rfl,λu1 h1 s1=> ?_⟩
   have B1:=Bp.step s1 (λ_ _ h=>h)
   obtain⟨w1,w2,w3,w4,w5,w6,w7,w8,w9⟩:=B1.open
   refine⟨by simp(disch:=omega) only[↓reduceIte,go_sem,e0,z8,w1,w8],?_⟩
   have o1:=hop.sZ s1
   have m1:=hmp.step s1 (λh=>h)
   simp only[↓reduceIte,go_sem,jN]
   refine wm (ks:=ksC) (enc:=AJ) (s:=jU t) AL (Gq hwt) B1.mC ⟨jO,?_⟩
   have hid:(nJ cs (jU t)).getD 0=wK cs (jU t):=rfl
   rw[hid]
   simp only[mr,aD,aW]
   simp only[↓reduceIte,go_sem,jN]
   have st1:=stp.tZ s1
   refine kW rfl o1 (x:=(false,wK cs (jU t))) (cs:=[.bool false,Jx JT (wK cs (jU t))]) (by rw[wC]) rfl rfl st1.ge.sz zO λa n c u3 h3 o3 s3 b3=>⟨jO,?_⟩
   simp(disch:=omega) only[↓reduceIte,go_sem,e18]
   have hjl:=m1.lt
   have hm1: ¬jL (σ 11) mv:=λhj=>by have:=hob _ hj;have:=hM.lt;omega
   exact next _ u3 h3 nj zJ zJ zJ zJ zJ zJ zJ (st1.trans s3 λj hj hB=>by have:=hob j hB;omega) (by rw[hsn];simpa [jI]using o3) (by rw[hst];exact m1.step s3 hm1) (by rw[hst];exact hnj)
    (λhp=>by
     have X:=(((hBj hp).sZ sp).sZ s1).step s3 (λhj=>by have:=hob _ hj;have:=(hpos hp).1.1;omega)
     rw[hst];exact X)
 ·obtain rfl:i=tl.length:=zO
  rw[bB,agS,bG]at hF
  rw[bB,agT]at hV
  simp only[↓reduceIte,go_sem,e17,e18]
  exact hK _ _ _ _ st (by rw[hF];exact ho) (by rw[hV];exact hMj) (by rw[hV];exact hnj) (by rw[hV];exact hBj)
end Go.Proofs.Z
namespace Edict
theorem ad4{κ:Type} [DecidableEq κ](l:List κ)(s:κ):0<=wK l s/\wK l s<=l.length:=by
 unfold wK nJ
 split
 ·rename_i h
  have:=dL h
  simp only[bZ];omega
 ·simp
def AP(p:Int)(ids:List Int):List Int:=(p::ids)++List.replicate (8 - ids.length) 0
theorem aaQ{p x:Int}{ids:List Int}(h:ids.length<8):(AP p ids).set (ids.length+1) x=AP p (ids++[x]):=by
 unfold AP
 obtain⟨m,hm⟩: ∃m,8 - ids.length=m+1:=⟨8 - ids.length - 1,zO⟩
 rw[hm,ay,aZ,show 8 - (ids.length+1)=m by omega]
 rw[aP,dK,aP,List.set_append_right _ _ (ak _),Nat.sub_self]
 simp [gY]
theorem aaR{p:Int}{ids:List Int}(h:ids.length<=8):(AP p ids).length=9:=by
 unfold AP;simp;omega
theorem akW{α:Type}{l:List α}(h:l.length=9): ∃n0 n1 n2 n3 n4 n5 n6 n7 n8,l=[n0,n1,n2,n3,n4,n5,n6,n7,n8]:=by
 match l,h with
 |[n0,n1,n2,n3,n4,n5,n6,n7,n8],_=>exact⟨_,_,_,_,_,_,_,_,_,rfl⟩
end Edict
namespace Go.Proofs.Z
open Go Go.Ev Edict
theorem wL.putF {k:Nat} {u u2:U} {h h2:H} {b mp mc:Nat} {vP vC vR vF vF':Value} {ps:List kK} {cs:List jK} {rs:List oq} {fs fs':List sj} (B:wL k u h b mp mc vP vC vR vF ps cs rs fs)
  (o2:lm k u2 h2 vF' fs') (s2:jD (jL vF) u h u2 h2) (hb: ∀i,jL vF' i->jL vF i\/h.size<=i):
  wL k u2 (ky h2 b 3 vF') b mp mc vP vC vR vF' ps cs rs fs'/\jD (qQ b mp mc vP vC vR vF) u h u2 (ky h2 b 3 vF'):=by
 have D:=B.dis
 simp only[Eg,bD,aH,cO,or_false,forall_eq_or_imp,forall_eq,List.Pairwise.nil,aC,false_imp_iff,implies_true]at D
 obtain⟨⟨d1,d2,d3,d4,d5,d6⟩,⟨d7,d8,d9,d10,d11⟩,⟨d12,d13,d14,d15⟩,⟨d16,d17,d18⟩,⟨d19,d20⟩,d21⟩:=D
 have X2:=B.blk.step s2 d6
 have P2:=B.oP.step s2 (λi hi e=>d18 i hi e)
 have C2:=B.oC.step s2 (λi hi e=>d20 i hi e)
 have R2:=B.oR.step s2 (λi hi e=>d21 i hi e)
 have mP2:=B.mP.step s2 d11
 have mC2:=B.mC.step s2 d15
 have hnew: ∀j,j<h.size-> ¬jL vF j-> ¬jL vF' j:=λj hj hn hv=>(hb j hv).elim hn (λh=>zO)
 have sw:jD (λi=>i=b) u2 h2 u2 (ky h2 b 3 vF'):=jD.set u2 h2 vF' rfl (by rw[X2.2.2.2.1];exact aj _)
 have sall:jD (qQ b mp mc vP vC vR vF) u h u2 (ky h2 b 3 vF'):=(s2.mono (S':=qQ b mp mc vP vC vR vF) (λi _ hi=> .inr (.inr (.inr (.inr (.inr (.inr hi))))))).trans sw (λi _ e=> .inl e)
 have hF'b: ¬jL vF' b:=hnew b B.blk.1 d6
 have hpl: ∀j,jL vP j-> ¬jL vF' j:=λj hj=>hnew j (B.oP.lt hj) (λhv=>d18 j hj hv)
 have hcl: ∀j,jL vC j-> ¬jL vF' j:=λj hj=>hnew j (B.oC.lt hj) (λhv=>d20 j hj hv)
 have hrl: ∀j,jL vR j-> ¬jL vF' j:=λj hj=>hnew j (B.oR.lt hj) (λhv=>d21 j hj hv)
 refine⟨⟨X2.set (i:=3) (v:=vF') zP,nL P2 d3 X2.2.2.2.1,nL C2 d4 X2.2.2.2.1,nL R2 d5 X2.2.2.2.1,nL o2 hF'b X2.2.2.2.1,mP2.step sw (λe=>d1 (by have e:mp=b:=e;rw[e])),mC2.step sw (λe=>d2 (by have e:mc=b:=e;rw[e])),?_,B.kb,B.kp,B.kc⟩,sall⟩
 simp only[Eg,bD,aH,cO,or_false,forall_eq_or_imp,forall_eq,List.Pairwise.nil,aC,false_imp_iff,implies_true]
 exact⟨⟨d1,d2,d3,d4,d5,hF'b⟩,⟨d7,d8,d9,d10,hnew mp B.mP.lt d11⟩,⟨d12,d13,d14,hnew mc B.mC.lt d15⟩,⟨d16,d17,hpl⟩,⟨d19,hcl⟩,hrl⟩
def OJ(vs:List Value)(h:H)(K:Value->H->Prop):Prop:= ∃(k:Nat) (u:U) (b mp mc ms:Nat) (vP vC vR vF:Value) (l:List Value) (a:kZ) (ps:List kK) (cs:List jK) (rs:List oq) (fs:List sj),
 vs=[.pointer (some ⟨b,0,none⟩),.map (some ms),.agg l.toArray]/\Rep.rep u h a l/\wL k u h b mp mc vP vC vR vF ps cs rs fs/\wP ksK zu h ms (nJ (fs.map BO)) fs.length/\ ¬qQ b mp mc vP vC vR vF ms/\a.2.1.length<=8/\
 (∀t∈a.2.1,Rep.wf (jU t))/\ps.length<=1048576/\cs.length<=65536/\fs.length<=1048576/\k<=h.size/\
 ∀u' h' vF',jD (λi=>i=ms\/qQ b mp mc vP vC vR vF i) u h u' h'->wL k u' h' b mp mc vP vC vR vF' ps cs rs (rX fs (ou ps cs a))->wP ksK zu h' ms (nJ ((rX fs (ou ps cs a)).map BO)) (rX fs (ou ps cs a)).length->
  (∀i,jL vF' i->jL vF i\/h.size<=i)->K (.tuple #[]) h'
def aaS:lq:=λf vs h K _=>(f=69/\rR vs h K)\/(f=72/\adQ vs h K)
theorem OL:lQ Tryz.prog aaS:=lY CB (pX aaC)
theorem WL{vs:List Value}{h:H}{K:Value->H->Prop}{KP:List PanicEntry->H->Prop}(hC:OJ vs h K):kN Tryz.prog 31 vs h K KP:=by
 obtain⟨k,u,b,mp,mc,ms,vP,vC,vR,vF,l,a,ps,cs,rs,fs,rfl,hr,B,hM,hms,h8,hwf,hpl,hcl,hfl,hkh,hK⟩:=hC
 rw[kE]at hr
 obtain⟨av,rfl,hav⟩:=hr
 obtain⟨aa,ac,rfl,q1,q2⟩:=hav.sl
 have hm:=lC
 refine jJ 72057594541250535 [] OL Tryz.func31 ?_ (by kernel_rfl) (by apply c0 rfl;repeat' first|apply cS|apply cK|apply cL|apply cX|(apply cC zD)|(conv=>lhs;cbv;try simp only[Kw]))
 obtain⟨z1,z2,z3,z4,z5,z6,z7,z8,z9⟩:=B.open
 simp only[↓reduceIte,go_sem]
 have s0:=jD.qZ S0 u h #[str a.1,.slice aa a.2.1.length ac,Jx JT a.2.2] 51
 have B0:=B.step s0 (λ_ _ h=>h)
 have X0:jR (ub u h.size 0) (h.push (.cells #[str a.1,.slice aa a.2.1.length ac,Jx JT a.2.2] 51)) h.size [str a.1,.slice aa a.2.1.length ac,Jx JT a.2.2]:=(jR.mk zY zE zE (by repeat (first|(refine lU ?_;simp only[];done)|apply kG)) zE)
 have M0:=hM.step s0 (λh=>h)
 have hpid:(nJ (ps.map (·.1)) a.1).getD 0=uI ps a.1:=rfl
 obtain⟨σ0,hσ0⟩:=kg (jI (jI (jI (jI BM 0 (.pointer (some ⟨b,0,none⟩))) 1 (.map (some ms))) 2 (.agg #[str a.1,.slice aa a.2.1.length ac,Jx JT a.2.2])) 5 (.pointer (some ⟨h.size,0,none⟩)))
 have g0:σ0 0= .pointer (some ⟨b,0,none⟩):=by rw[hσ0];simp [jI]
 have g1:σ0 1= .map (some ms):=by rw[hσ0];simp [jI]
 have g5:σ0 5= .pointer (some ⟨h.size,0,none⟩):=by rw[hσ0];simp [jI]
 rw[<-hσ0]
 clear hσ0
 obtain⟨h0,hh0⟩:=kg (h.push (.cells #[str a.1,.slice aa a.2.1.length ac,Jx JT a.2.2] 51))
 obtain⟨u0,hu0⟩:=kg (ub u h.size 0)
 rw[<-hh0,<-hu0]at s0 B0 X0
 rw[<-hh0]at M0
 rw[<-hh0]
 have hh1:h0.size=h.size+1:=by rw[hh0];simp only[kw]
 clear hh0 hu0
 obtain⟨z1,z2,z3,z4,z5,z6,z7,z8,z9⟩:=B0.open
 have hx0:=X0.1
 refine vX (λσ' h2=>BR σ0 σ' [0,1,5]/\ ∃u2,jD S0 u0 h0 u2 h2/\σ' 6= .pointer (some ⟨h0.size,0,none⟩)/\jR u2 h2 h0.size [Jx JT (uI ps a.1),.slice none 0 0]) ?_ ?_
 ·simp(disch:=first|omega|simp only[zz];try omega;done) only[↓reduceIte,go_sem,vQ,g0,g1,g5,z1,z7,X0.at,X0.2.1]
  refine⟨oz B0.mP ⟨jO,?_⟩,oz (B0.mP.step (jD.qZ S0 u0 h0 _ _) (λh=>h)) ⟨jO,?_⟩⟩
  ·rw[hpid]
   simp only[mr,aD,aW]
   simp(disch:=omega) only[↓reduceIte,go_sem,g0,g1,g5]
   exact⟨_,jD.qZ S0 u0 h0 _ _,(jR.mk zY zE zE (by repeat (first|(refine lU ?_;simp only[];done)|apply kG)) zE)⟩
  ·rw[hpid]
   simp only[mr,aD,aW]
   simp(disch:=omega) only[↓reduceIte,go_sem,g0,g1,g5]
   exact⟨_,jD.qZ S0 u0 h0 _ _,(jR.mk zY zE zE (by repeat (first|(refine lU ?_;simp only[];done)|apply kG)) zE)⟩
 ·rintro σ h2 ⟨hkE,u2,s2,e6,R⟩
  simp only[go_sem,g0,g1,g5]at hkE
  obtain⟨k0,k1,k5⟩:=hkE
  have B2:=B0.step s2 (λ_ _ h=>h)
  have X2:=X0.sZ s2
  have M2:=M0.step s2 (λh=>h)
  have Uc:=X2.1
  have hr2:=R.1
  simp(disch:=first|omega|simp only[zz];try omega;done) only[↓reduceIte,go_sem,k5,e6,R.at,R.2.1,X2.at,X2.2.1]
  obtain⟨pid,hp0⟩:=kg (uI ps a.1)
  rw[<-hp0]at R
  rw[<-hp0]
  have hpb:=ad4 (ps.map (·.1)) a.1
  rw[aU,show wK (ps.map (·.1)) a.1=pid from hp0.symm]at hpb
  obtain⟨f,hf⟩:=kg (α:=jM->Int) λt=>wK cs (jU t)
  have hz2:=s2.ge.sz
  have s3:=jD.qZ S0 u2 h2 #[Jx JT pid,Jx JT 0,Jx JT 0,Jx JT 0,Jx JT 0,Jx JT 0,Jx JT 0,Jx JT 0,Jx JT 0] 154
  have KB0:jR (ub u2 h2.size 0) (h2.push (.cells #[Jx JT pid,Jx JT 0,Jx JT 0,Jx JT 0,Jx JT 0,Jx JT 0,Jx JT 0,Jx JT 0,Jx JT 0] 154)) h2.size [Jx JT pid,Jx JT 0,Jx JT 0,Jx JT 0,Jx JT 0,Jx JT 0,Jx JT 0,Jx JT 0,Jx JT 0]:=(jR.mk zY zE zE (by repeat (first|(refine lU ?_;simp only[];done)|apply kG)) zE)
  have R3:=R.sZ s3
  have st3:=(s0.tZ s2).tZ s3
  obtain⟨pk,hpk⟩:=kg h2.size
  obtain⟨pr,hpr⟩:=kg h0.size
  have KB:jR (ub u2 h2.size 0) (h2.push (.cells #[Jx JT pid,Jx JT 0,Jx JT 0,Jx JT 0,Jx JT 0,Jx JT 0,Jx JT 0,Jx JT 0,Jx JT 0] 154)) pk ((AP pid ((a.2.1.take 0).map f)).map (Value.int .i64)):=by rw[hpk];exact KB0
  rw[<-hpk]
  clear KB0
  rw[<-hpr]at R3 e6
  obtain⟨I,hI⟩:=kg (α:=Nat->ku->H->Prop) λi σ h'=>σ 0= .pointer (some ⟨b,0,none⟩)/\σ 1= .map (some ms)/\σ 6= .pointer (some ⟨pr,0,none⟩)/\σ 7= .pointer (some ⟨pk,0,none⟩)/\σ 25= .slice aa a.2.1.length ac/\σ 26= Jx JT a.2.1.length/\σ 27= Jx JT i/\i<=a.2.1.length/\
   ∃(u':U) (vA:Value),jD S0 u h u' h'/\lm h.size u' h' vA ((a.2.1.take i).map f)/\jR u' h' pr [Jx JT pid,vA]/\jR u' h' pk ((AP pid ((a.2.1.take i).map f)).map (Value.int .i64))/\ ¬jL vA pr/\ ¬jL vA pk
  refine jE I (λi=>a.2.1.length - i) 0 (by
   rw[hI]
   exact⟨by simp [jI,k0],by simp [jI,k1],by simp [jI,e6],zJ,zJ,zJ,zJ,aj _,_,_,st3,.nil _ _ _,R3,KB,oG,oG⟩) ?_
  have hpr1:h.size<=pr/\h.size<=pk/\pr≠pk:=zO
  clear KB R3 R M2 X2 B2 Uc hr2 s3 st3 k0 k1 k5 e6 hpk hpr hz2 hh1 hx0 s2 M0 B0 X0 z1 z2 z3 z4 z5 z6 z7 z8 z9 s0
  have hlen9: ∀i,(AP pid ((a.2.1.take i).map f)).length=9:=λi=>aaR (by rw[aU,aR];omega)
  intro i σ h' hy
  rw[hI]at hy
  obtain⟨e0,e1,e6,e7,e25,e26,e27,hi,u',vA,st,ho,R,KB,nR,nK⟩:=hy
  have B':=B.step st (λ_ _ h=>h)
  have M':=hM.step st (λh=>h)
  obtain⟨z1,z2,z3,z4,z5,z6,z7,z8,z9⟩:=B'.open
  have hrl:=R.1
  have hkl:=KB.1
  have hkz:lS h' pk=9:=by rw[KB.2.1,aU,hlen9]
  by_cases hlt:i<a.2.1.length
  ·obtain⟨t,hs⟩: ∃t,a.2.1[i]? =some t:=⟨a.2.1[i],by simp [hlt]⟩
   have hwt:=hwf t (aF hs)
   have hsn:(a.2.1.take (i+1)).map f=(a.2.1.take i).map f++[wK cs (jU t)]:=by
    rw[aX,hs,bC,bH,hf];rfl
   obtain⟨tb,to,rfl,htb,htu,htz,htr⟩:=(hav.mono st.ge).row i t hs
   rw[ko]at htr
   simp only[jM.enc,lG,mQ,ax,aC]at htr htu htz
   obtain⟨t0,t1,t2,t3⟩:=htr
   have sp:=jD.qZ S0 u' h' #[Jx JT t.1,Jx JT t.2.1,str t.2.2.1,Jx JT t.2.2.2] 74
   have Bp:=B'.step sp (λ_ _ h=>h)
   simp(disch:=omega) only[↓reduceIte,go_sem,e0,e25,e26,e27,hlt,t0,t1,t2,t3,z1,z8]
   refine jC (.inl ⟨rfl,ub u' h'.size 0,t,rfl,λu1 h1 s1=> ?_⟩)
   have B1:=Bp.step s1 (λ_ _ h=>h)
   obtain⟨w1,w2,w3,w4,w5,w6,w7,w8,w9⟩:=B1.open
   refine⟨by simp(disch:=omega) only[↓reduceIte,go_sem,e0,z8,w1,w8],?_⟩
   have o1:=(ho.sZ sp).sZ s1
   have R1:=(R.sZ sp).sZ s1
   have K1:=(KB.sZ sp).sZ s1
   have st1:=(st.tZ sp).tZ s1
   have hrl1:=R1.1
   simp only[↓reduceIte,go_sem,jN]
   refine wm (ks:=ksC) (enc:=AJ) (s:=jU t) AL (Gq hwt) B1.mC ⟨jO,?_⟩
   have hid:(nJ cs (jU t)).getD 0=wK cs (jU t):=rfl
   rw[hid]
   simp only[mr,aD,aW]
   have hv0:=R1.at 1 zP
   simp only[aG,eT,bO,bZ]at hv0
   simp only[↓reduceIte,go_sem,e6,R1.2.1,hv0]
   refine kW rfl o1 (x:=wK cs (jU t)) (cs:=[Jx JT (wK cs (jU t))]) (by rw[mG]) rfl rfl st1.ge.sz (by rw[aU,aR];omega) λa' n' c' u3 h3 o3 s3 b3=>⟨jO,?_⟩
   have R3:=R1.step s3 nR
   have K3:=K1.step s3 nK
   have hr3:=R3.1
   have hk3:=K3.1
   have hkz3:lS h3 pk=9:=by rw[K3.2.1,aU,hlen9]
   have nR3: ¬jL (.slice a' n' c') pr:=λhj=>(b3 _ hj).elim nR (λh=>zO)
   have nK3: ¬jL (.slice a' n' c') pk:=λhj=>(b3 _ hj).elim nK (λh=>by have:=K1.1;omega)
   have hofr:tJ h3 pk=(0,0):=K3.2.2.1
   simp(disch:=omega) only[↓reduceIte,go_sem,e6,e7,e27,R3.2.1,R3.2.2.1,hkz3,hofr]
   refine⟨zO,zO,zO,aj _,i+1,?_,zO⟩
   have sw1:jD (λj=>j=pr) u3 h3 u3 (ky h3 pr 1 (.slice a' n' c')):=jD.set u3 h3 _ rfl (by rw[R3.2.2.2.1];exact aj _)
   have R4:=R3.set (i:=1) (v:= .slice a' n' c') zP
   have K4:=K3.step sw1 (λe=>hpr1.2.2 (by have e:pk=pr:=e;exact e.symm))
   have o4:=o3.step sw1 (λj hj e=>nR3 (by have e:j=pr:=e;rw[<-e];exact hj))
   have sw2:jD (λj=>j=pk) u3 (ky h3 pr 1 (.slice a' n' c')) u3 (ky (ky h3 pr 1 (.slice a' n' c')) pk ((i+1)*1) (Jx JT (wK cs (jU t)))):=jD.set u3 _ _ rfl (by rw[K4.2.2.2.1];exact aj _)
   have R5:=R4.step sw2 (λe=>hpr1.2.2 (by have e:pr=pk:=e;exact e))
   have K5:=K4.set (i:=(i+1)*1) (v:= Jx JT (wK cs (jU t))) (by rw[aU,hlen9];omega)
   have o5:=o4.step sw2 (λj hj e=>nK3 (by have e:j=pk:=e;rw[<-e];exact hj))
   have st5:=(((st1.trans s3 (λj hj hB=>by have:=ho.ge hB;omega)).trans sw1 (λj hj e=>by have e:j=pr:=e;omega)).trans sw2 (λj hj e=>by have e:j=pk:=e;omega))
   have hil:((a.2.1.take i).map f).length=i:=by rw[aU,aR];omega
   have hks:=aaQ (p:=pid) (x:=wK cs (jU t)) (ids:=(a.2.1.take i).map f) zO
   rw[hil,<-hsn]at hks
   rw[<-List.map_set,dz,hks]at K5
   rw[hI]
   exact⟨by simp [jI,e0],by simp [jI,e1],by simp [jI,e6],by simp [jI,e7],by simp [jI,e25],by simp [jI,e26],zJ,hlt,u3,_,st5,by rw[hsn];exact o5,R5,by rw[dz];exact K5,nR3,nK3⟩
  ·obtain rfl:i=a.2.1.length:=zO
   have h9:=hlen9 a.2.1.length
   rw[aK]at ho KB h9
   have hrow:ou ps cs a=(pid,a.2.1.map f):=by unfold ou;rw[hp0,hf]
   have hkey:BO (ou ps cs a)=AP pid (a.2.1.map f):=by rw[hrow];rfl
   have hwk: ∀x∈AP pid (a.2.1.map f),Rep.wf x:=by
    intro x hx
    have:0<=x/\x<=1048576:=by
     unfold AP at hx
     rcases aV.1 hx with hx|hx
     ·rcases aH.1 hx with rfl|hx
      ·omega
      ·obtain⟨t,-,rfl⟩:=bF.1 hx
       rw[hf]
       have:=ad4 cs (jU t)
       simp only;omega
     ·have:=(List.mem_replicate.1 hx).2
      omega
    show -9223372036854775808<=x/\x<=9223372036854775807
    omega
   obtain⟨n0,n1,n2,n3,n4,n5,n6,n7,n8,hk9⟩:=akW h9
   rw[hk9]at KB h9 hwk hkey
   simp only[aS,bK]at KB
   simp(disch:=first|omega|simp only[zz];try omega;done) only[↓reduceIte,go_sem,e1,e7,e26,e27,KB.at,KB.2.1]
   refine jC (.inr ⟨rfl,u',ms,fs.map BO,[n0,n1,n2,n3,n4,n5,n6,n7,n8],rfl,by rw[aU];exact M',by rw[aU];omega,h9,hwk,λhin u3 h3 s3=>⟨jO,?_⟩,λhin u3 h3 s3 m3=>⟨jO,?_⟩⟩)
   ·have hft:rX fs (ou ps cs a)=fs:=by unfold rX;rw[hkey,ah hin]
    simp(disch:=omega) only[↓reduceIte,go_sem]
    have st3:=st.tZ s3
    exact hK _ _ vF (st3.mono λ_ _ h=>h.elim) (by rw[hft];exact B.step st3 (λ_ _ h=>h)) (by rw[hft];exact hM.step st3 (λh=>h)) (λj hj=> .inl hj)
   ·have hft:rX fs (ou ps cs a)=fs++[ou ps cs a]:=by unfold rX;rw[hkey,af hin]
    have B3:=B'.step s3 (λj hj e=>hms (by have e:j=ms:=e;rw[<-e];exact hj))
    have hmsl:=hM.lt
    have R3:=R.step s3 (λe=>by have e:pr=ms:=e;omega)
    have o3:=ho.step s3 (λj hj e=>by have e:j=ms:=e;have:=ho.ge hj;omega)
    obtain⟨w1,w2,w3,w4,w5,w6,w7,w8,w9⟩:=B3.open
    have hr3:=R3.1
    obtain⟨va,vc,qV,-,-⟩:=ho.sl
    subst qV
    simp(disch:=first|omega|simp only[zz];try omega;done) only[↓reduceIte,go_sem,e0,e6,w1,w6,R3.at,R3.2.1]
    have hX3:=B3.blk
    have st3:jD (λi=>i=ms\/qQ b mp mc vP vC vR vF i) u h u3 h3:=(st.mono (λ_ _ h=>h.elim)).trans s3 (λj _ e=> .inl e)
    refine kW rfl B3.oF (x:=ou ps cs a) (cs:=[Jx JT pid,.slice va (a.2.1.map f).length vc]) (by rw[xf,hrow];exact⟨_,rfl,o3.iZ⟩) rfl rfl (aT hkh st3.ge.sz) zO λa4 n4 c4 u4 h4 o4 s4 b4=>⟨jO,?_⟩
    obtain⟨B4,st4⟩:=B3.putF o4 s4 b4
    have hb4: ¬jL vF b:=by
     have D:=B3.dis
     simp only[Eg,bD,aH,cO,or_false,forall_eq_or_imp,forall_eq,List.Pairwise.nil,aC,false_imp_iff,implies_true]at D
     exact D.1.2.2.2.2.2
    have X4:=hX3.step s4 hb4
    have y1:lS h4 b=6:=X4.2.1
    have y2:tJ h4 b=(0,0):=X4.2.2.1
    simp only[↓reduceIte,go_sem,e0,y1,y2]
    have hm4:=m3.step st4 hms
    refine hK _ _ _ (st3.trans st4 λj _ hj=> .inr hj) (by rw[hft];exact B4) (by rw[hft,bH,aS,bK,hkey,ay,aZ];simpa using hm4) λj hj=>(b4 j hj).imp id λh=>by have:=st3.ge.sz;omega
variable {vs:List Value} {h:H} {K:Value->H->Prop} {KP:List PanicEntry->H->Prop}
def vv(α:Type) [Rep α](vs:List Value)(h:H)(K:Value->H->Prop):Prop:= ∃(u:U) (v w:Value) (l:List α),vs=[v,w]/\jS u h v l/\jS u h w l/\ ∀u' h',jD S0 u h u' h'->K (.bool true) h'
theorem Kj(hC:vv uL vs h K):kN Tryz.prog 88 vs h K KP:=by
 obtain⟨u,v,w,l,rfl,ha,hb,hK⟩:=hC
 obtain⟨aa,ac,rfl,q1,q2⟩:=ha.sl
 obtain⟨ba,bc,rfl,-,-⟩:=hb.sl
 have hm:=lC
 refine jJ 1099511645235 [(none,(.t 4))] (G:=(λ_ _ _ _ _=>False)) (λ_ _ _ _ _ h=>h.elim) Tryz.func88 ?_ (by kernel_rfl) (by apply c0 rfl;repeat' first|apply cS|apply cK|apply cL|apply cX|(apply cC zD)|with_reducible exact cV 6 (.sts [(zx 2 (.t 0) (.t 5)),(zg 0 (zi 2 (.t 0) (.t 5))),(zh (zf 0 (zi 2 (.t 0) (.t 5)))),(zx 2 (.t 1) (.t 5)),(zg 0 (zi 2 (.t 1) (.t 5))),(zh (zf 0 (zi 2 (.t 1) (.t 5)))),(.chk [] (.c2 (.eqb true) (zl (zf 0 (zi 2 (.t 0) (.t 5)))) (zl (zf 0 (zi 2 (.t 1) (.t 5)))))),(.chk [((.o2 (.eqb true) (zl (zf 0 (zi 2 (.t 0) (.t 5)))) (zl (zf 0 (zi 2 (.t 1) (.t 5))))),false)] (.c2 (.idxA 2) (.t 0) (.t 5))),(.chk [((.o2 (.eqb true) (zl (zf 0 (zi 2 (.t 0) (.t 5)))) (zl (zf 0 (zi 2 (.t 1) (.t 5))))),false)] (.c1 (.fld 1) (zi 2 (.t 0) (.t 5)))),(.chk [((.o2 (.eqb true) (zl (zf 0 (zi 2 (.t 0) (.t 5)))) (zl (zf 0 (zi 2 (.t 1) (.t 5))))),false)] (.c1 .ld1 (zf 1 (zi 2 (.t 0) (.t 5))))),(.chk [((.o2 (.eqb true) (zl (zf 0 (zi 2 (.t 0) (.t 5)))) (zl (zf 0 (zi 2 (.t 1) (.t 5))))),false)] (.c2 (.idxA 2) (.t 1) (.t 5))),(.chk [((.o2 (.eqb true) (zl (zf 0 (zi 2 (.t 0) (.t 5)))) (zl (zf 0 (zi 2 (.t 1) (.t 5))))),false)] (.c1 (.fld 1) (zi 2 (.t 1) (.t 5)))),(.chk [((.o2 (.eqb true) (zl (zf 0 (zi 2 (.t 0) (.t 5)))) (zl (zf 0 (zi 2 (.t 1) (.t 5))))),false)] (.c1 .ld1 (zf 1 (zi 2 (.t 1) (.t 5))))),(.chk [((.o2 (.eqb true) (zl (zf 0 (zi 2 (.t 0) (.t 5)))) (zl (zf 0 (zi 2 (.t 1) (.t 5))))),false)] (.c2 (.bin .neq) (zl (zf 1 (zi 2 (.t 0) (.t 5)))) (zl (zf 1 (zi 2 (.t 1) (.t 5)))))),(.chk [] (.c3 .pick (.o2 (.eqb true) (zl (zf 0 (zi 2 (.t 0) (.t 5)))) (zl (zf 0 (zi 2 (.t 1) (.t 5))))) (.c (.bool true)) (zb .neq (zl (zf 1 (zi 2 (.t 0) (.t 5)))) (zl (zf 1 (zi 2 (.t 1) (.t 5))))))),(.set 40 (.o3 .pick (.o2 (.eqb true) (zl (zf 0 (zi 2 (.t 0) (.t 5)))) (zl (zf 0 (zi 2 (.t 1) (.t 5))))) (.c (.bool true)) (zb .neq (zl (zf 1 (zi 2 (.t 0) (.t 5)))) (zl (zf 1 (zi 2 (.t 1) (.t 5)))))))]) (by kernel_rfl)|(conv=>lhs;cbv;try simp only[Kw]))
 simp only[↓reduceIte,go_sem]
 obtain⟨I,hI⟩:=kg (α:=Nat->ku->H->Prop) λi σ h'=>σ 0= .slice aa l.length ac/\σ 1= .slice ba l.length bc/\σ 5= Jx JT i/\i<=l.length/\h'=h
 refine jE I (λi=>l.length - i) 0 (by rw[hI];exact⟨zJ,zJ,zJ,aj _,rfl⟩) ?_
 intro i σ h' hy
 rw[hI]at hy
 obtain⟨e0,e1,e5,hi,rfl⟩:=hy
 by_cases hlt:i<l.length
 ·obtain⟨x,hs⟩:=qP hlt
  obtain⟨pb,po,rfl,hpb,hpu,hpz,hpr⟩:=ha.row i x hs
  obtain⟨qb,qo,rfl,hqb,hqu,hqz,hqr⟩:=hb.row i x hs
  simp only[wC,Yn,CP,ax,aC]at hpr hpu hpz hqr hqu hqz
  simp(disch:=omega) only[↓reduceIte,go_sem,e0,e1,e5,hlt,hpr.1,hpr.2,hqr.1,hqr.2]
  refine⟨i+1,?_,zO⟩
  rw[hI]
  exact⟨by simp [jI,e0],by simp [jI,e1],zJ,hlt,rfl⟩
 ·obtain rfl:i=l.length:=zO
  simp only[↓reduceIte,go_sem,e0,e5]
  exact hK u _ (.refl _ _ _)
theorem WV(hC:vv Test vs h K):kN Tryz.prog 110 vs h K KP:=by
 obtain⟨u,v,w,l,rfl,ha,hb,hK⟩:=hC
 obtain⟨aa,ac,rfl,q1,q2⟩:=ha.sl
 obtain⟨ba,bc,rfl,-,-⟩:=hb.sl
 have hm:=lC
 refine jJ 33571891 [(none,(.t 4))] (G:=(λ_ _ _ _ _=>False)) (λ_ _ _ _ _ h=>h.elim) Tryz.func110 ?_
 simp only[↓reduceIte,go_sem]
 obtain⟨I,hI⟩:=kg (α:=Nat->ku->H->Prop) λi σ h'=>σ 0= .slice aa l.length ac/\σ 1= .slice ba l.length bc/\σ 5= Jx JT i/\i<=l.length/\h'=h
 refine jE I (λi=>l.length - i) 0 (by rw[hI];exact⟨zJ,zJ,zJ,aj _,rfl⟩) ?_
 intro i σ h' hy
 rw[hI]at hy
 obtain⟨e0,e1,e5,hi,rfl⟩:=hy
 by_cases hlt:i<l.length
 ·obtain⟨x,hs⟩:=qP hlt
  obtain⟨pb,po,rfl,hpb,hpu,hpz,hpr⟩:=ha.row i x hs
  obtain⟨qb,qo,rfl,hqb,hqu,hqz,hqr⟩:=hb.row i x hs
  simp only[Jb,agj,ahn,ax,aC]at hpr hpu hpz hqr hqu hqz
  obtain⟨p0,p1,p2,p3,p4⟩:=hpr
  obtain⟨g0,g1,g2,g3,g4⟩:=hqr
  simp(disch:=omega) only[↓reduceIte,go_sem,e0,e1,e5,hlt,p0,p1,p2,p3,p4,g0,g1,g2,g3,g4]
  refine⟨i+1,?_,zO⟩
  rw[hI]
  exact⟨by simp [jI,e0],by simp [jI,e1],zJ,hlt,rfl⟩
 ·obtain rfl:i=l.length:=zO
  simp only[↓reduceIte,go_sem,e0,e5]
  exact hK u _ (.refl _ _ _)
def OT:lq:=λf vs h K _=>f=88/\vv uL vs h K
theorem Gy:lQ Tryz.prog OT:=by
 rintro f vs h K KP ⟨rfl,hC⟩;exact Kj hC
theorem Lc(hC:vv mV vs h K):kN Tryz.prog 109 vs h K KP:=by
 obtain⟨u,v,w,l,rfl,ha,hb,hK⟩:=hC
 obtain⟨aa,ac,rfl,q1,q2⟩:=ha.sl
 obtain⟨ba,bc,rfl,-,-⟩:=hb.sl
 have hm:=lC
 refine jJ 2199023273011 [(none,(.t 4))] Gy Tryz.func109 ?_ (by kernel_rfl) (by apply c0 rfl;repeat' first|apply cS|apply cK|apply cL|apply cX|(apply cC zD)|with_reducible exact cV 6 (.sts [(zx 2 (.t 0) (.t 5)),(zg 0 (zi 2 (.t 0) (.t 5))),(zh (zf 0 (zi 2 (.t 0) (.t 5)))),(zx 2 (.t 1) (.t 5)),(zg 0 (zi 2 (.t 1) (.t 5))),(zh (zf 0 (zi 2 (.t 1) (.t 5)))),(zq .neq (zl (zf 0 (zi 2 (.t 0) (.t 5)))) (zl (zf 0 (zi 2 (.t 1) (.t 5))))),(.chk [((zb .neq (zl (zf 0 (zi 2 (.t 0) (.t 5)))) (zl (zf 0 (zi 2 (.t 1) (.t 5))))),false)] (.c2 (.idxA 2) (.t 0) (.t 5))),(.chk [((zb .neq (zl (zf 0 (zi 2 (.t 0) (.t 5)))) (zl (zf 0 (zi 2 (.t 1) (.t 5))))),false)] (.c1 (.fld 1) (zi 2 (.t 0) (.t 5)))),(.chk [((zb .neq (zl (zf 0 (zi 2 (.t 0) (.t 5)))) (zl (zf 0 (zi 2 (.t 1) (.t 5))))),false)] (.c1 .ld1 (zf 1 (zi 2 (.t 0) (.t 5))))),(.chk [((zb .neq (zl (zf 0 (zi 2 (.t 0) (.t 5)))) (zl (zf 0 (zi 2 (.t 1) (.t 5))))),false)] (.c2 (.idxA 2) (.t 1) (.t 5))),(.chk [((zb .neq (zl (zf 0 (zi 2 (.t 0) (.t 5)))) (zl (zf 0 (zi 2 (.t 1) (.t 5))))),false)] (.c1 (.fld 1) (zi 2 (.t 1) (.t 5)))),(.chk [((zb .neq (zl (zf 0 (zi 2 (.t 0) (.t 5)))) (zl (zf 0 (zi 2 (.t 1) (.t 5))))),false)] (.c1 .ld1 (zf 1 (zi 2 (.t 1) (.t 5))))),(.set 38 (zl (zf 1 (zi 2 (.t 1) (.t 5))))),(.set 33 (zl (zf 1 (zi 2 (.t 0) (.t 5))))),(.set 28 (zb .neq (zl (zf 0 (zi 2 (.t 0) (.t 5)))) (zl (zf 0 (zi 2 (.t 1) (.t 5)))))),(.eff [((.t 28),false)] (some 39) (.call 88) [(.t 33),(.t 38)] []),(.chk [((.t 28),false)] (.c1 .not (.t 39))),(.chk [] (.c3 .pick (.t 28) (.c (.bool true)) (.o1 .not (.t 39)))),(.set 41 (.o3 .pick (.t 28) (.c (.bool true)) (.o1 .not (.t 39))))]) (by kernel_rfl)|(conv=>lhs;cbv;try simp only[Kw]))
 simp only[↓reduceIte,go_sem]
 obtain⟨I,hI⟩:=kg (α:=Nat->ku->H->Prop) λi σ h'=>σ 0= .slice aa l.length ac/\σ 1= .slice ba l.length bc/\σ 5= Jx JT i/\i<=l.length/\ ∃u',jD S0 u h u' h'
 refine jE I (λi=>l.length - i) 0 (by rw[hI];exact⟨zJ,zJ,zJ,aj _,u,.refl _ _ _⟩) ?_
 intro i σ h' hy
 rw[hI]at hy
 obtain⟨e0,e1,e5,hi,u',st⟩:=hy
 by_cases hlt:i<l.length
 ·obtain⟨x,hs⟩:=qP hlt
  obtain⟨pb,po,rfl,hpb,hpu,hpz,hpr⟩:=(ha.mono st.ge).row i x hs
  obtain⟨qb,qo,rfl,hqb,hqu,hqz,hqr⟩:=(hb.mono st.ge).row i x hs
  rw[nA]at hpr hqr
  obtain⟨pv,hpr,ip⟩:=hpr
  obtain⟨qv,hqr,iq⟩:=hqr
  simp only[Vu,CP,ax,aC]at hpr hpu hpz hqr hqu hqz
  simp(disch:=omega) only[↓reduceIte,go_sem,e0,e1,e5,hlt,hpr.1,hpr.2,hqr.1,hqr.2]
  refine jC ⟨rfl,u',_,_,x.2,rfl,ip,iq,λu2 h2 s2=>⟨jO,?_⟩⟩
  simp(disch:=omega) only[↓reduceIte,go_sem,e5]
  refine⟨i+1,?_,zO⟩
  rw[hI]
  exact⟨by simp [jI,e0],by simp [jI,e1],zJ,hlt,u2,st.tZ s2⟩
 ·obtain rfl:i=l.length:=zO
  simp only[↓reduceIte,go_sem,e0,e5]
  exact hK u' _ st
def aee:lq:=λf vs h K _=>f=84/\NW vs h K
theorem Tz:lQ Tryz.prog aee:=by
 rintro f vs h K KP ⟨rfl,hC⟩;exact Je hC
theorem aaY(hC:vv sj vs h K):kN Tryz.prog 47 vs h K KP:=by
 obtain⟨u,v,w,l,rfl,ha,hb,hK⟩:=hC
 obtain⟨aa,ac,rfl,q1,q2⟩:=ha.sl
 obtain⟨ba,bc,rfl,-,-⟩:=hb.sl
 have hm:=lC
 refine jJ 67126323 [(none,(.t 4))] Tz Tryz.func47 ?_
 simp only[↓reduceIte,go_sem]
 obtain⟨I,hI⟩:=kg (α:=Nat->ku->H->Prop) λi σ h'=>σ 0= .slice aa l.length ac/\σ 1= .slice ba l.length bc/\σ 5= Jx JT i/\i<=l.length/\ ∃u',jD S0 u h u' h'
 refine jE I (λi=>l.length - i) 0 (by rw[hI];exact⟨zJ,zJ,zJ,aj _,u,.refl _ _ _⟩) ?_
 intro i σ h' hy
 rw[hI]at hy
 obtain⟨e0,e1,e5,hi,u',st⟩:=hy
 by_cases hlt:i<l.length
 ·obtain⟨x,hs⟩:=qP hlt
  obtain⟨pb,po,rfl,hpb,hpu,hpz,hpr⟩:=(ha.mono st.ge).row i x hs
  obtain⟨qb,qo,rfl,hqb,hqu,hqz,hqr⟩:=(hb.mono st.ge).row i x hs
  have hprs:=hpr
  have hqrs:=hqr
  rw[xf]at hpr hqr
  obtain⟨pv,hpr,ip⟩:=hpr
  obtain⟨qv,hqr,iq⟩:=hqr
  rw[hpr]at hprs
  rw[hqr]at hqrs
  simp only[ac7,CP,ax,aC]at hpr hpu hpz hqr hqu hqz
  simp(disch:=omega) only[↓reduceIte,go_sem,e0,e1,e5,hlt,hpr.1,hpr.2,hqr.1,hqr.2]
  refine jC ⟨rfl,u',x,x,[Jx JT x.1,pv],[Jx JT x.1,qv],rfl,hprs,hqrs,λu2 h2 s2=>⟨jO,?_⟩⟩
  simp(disch:=omega) only[↓reduceIte,go_sem,e5,decide_true]
  refine⟨i+1,?_,zO⟩
  rw[hI]
  exact⟨by simp [jI,e0],by simp [jI,e1],zJ,hlt,u2,st.tZ s2⟩
 ·obtain rfl:i=l.length:=zO
  simp only[↓reduceIte,go_sem,e0,e5]
  exact hK u' _ st
def xk(α:Type) [Rep α](vs:List Value)(h:H)(K:Value->H->Prop):Prop:= ∃(u:U) (x:α) (la lb:List Value),vs=[.agg la.toArray,.agg lb.toArray]/\Rep.rep u h x la/\Rep.rep u h x lb/\ ∀u' h',jD S0 u h u' h'->K (.bool true) h'
def WW:lq:=λf vs h K _=>(f=109/\vv mV vs h K)\/(f=110/\vv Test vs h K)\/(f=111/\YE vs h K)
theorem Ld:lQ Tryz.prog WW:=lY Lc (lY WV (pX VX))
theorem TA(hC:xk oq vs h K):kN Tryz.prog 87 vs h K KP:=by
 obtain⟨u,r,la,lb,rfl,ha,hb,hK⟩:=hC
 rw[sK]at ha hb
 obtain⟨a0,a1,a2,a3,a4,rfl,i0,i1,i2,i3,i4⟩:=ha
 obtain⟨b0,b1,b2,b3,b4,rfl,j0,j1,j2,j3,j4⟩:=hb
 refine jJ 31 [(none,(.t 4))] Ld Tryz.func87 ?_
 have s1:=jD.qZ S0 u h #[Jx JT r.1.1,a0,a1,a2,a3,a4,Jx JT r.2.2.2.2.2] 87
 have B1:=jR.newc (u:=u) (h:=h) [Jx JT r.1.1,a0,a1,a2,a3,a4,Jx JT r.2.2.2.2.2] 87
 have s2:=jD.qZ S0 (ub u h.size 0) (h.push (.cells #[Jx JT r.1.1,a0,a1,a2,a3,a4,Jx JT r.2.2.2.2.2] 87)) #[Jx JT r.1.1,b0,b1,b2,b3,b4,Jx JT r.2.2.2.2.2] 87
 have B2:=jR.newc (u:=ub u h.size 0) (h:=h.push (.cells #[Jx JT r.1.1,a0,a1,a2,a3,a4,Jx JT r.2.2.2.2.2] 87)) [Jx JT r.1.1,b0,b1,b2,b3,b4,Jx JT r.2.2.2.2.2] 87
 have B1:=B1.sZ s2
 have st2:=s1.tZ s2
 simp only[kw]at B2
 obtain⟨u2,hu2⟩:=kg (ub (ub u h.size 0) (h.size+1) 0)
 simp only[kw]at st2 B1
 rw[<-hu2]at B1 B2 st2
 simp(disch:=first|omega|simp only[zz];try omega;done) only[↓reduceIte,go_sem]
 refine jC (.inl ⟨rfl,u2,_,_,r.2.1,rfl,i1.mono st2.ge,j1.mono st2.ge,λu3 h3 s3=>⟨jO,?_⟩⟩)
 have st3:=st2.tZ s3
 have C1:=B1.sZ s3
 have C2:=B2.sZ s3
 have c1l:=C1.1
 have c2l:=C2.1
 simp(disch:=first|omega|simp only[zz];try omega;done) only[↓reduceIte,go_sem,C1.at,C1.2.1,C2.at,C2.2.1]
 refine jC (.inr (.inl ⟨rfl,u3,_,_,r.2.2.1,rfl,i2.mono st3.ge,j2.mono st3.ge,λu4 h4 s4=>⟨jO,?_⟩⟩))
 have st4:=st3.tZ s4
 have D1:=C1.sZ s4
 have D2:=C2.sZ s4
 have d1l:=D1.1
 have d2l:=D2.1
 simp(disch:=first|omega|simp only[zz];try omega;done) only[↓reduceIte,go_sem,D1.at,D1.2.1,D2.at,D2.2.1]
 refine jC (.inl ⟨rfl,u4,_,_,r.2.2.2.1,rfl,i3.mono st4.ge,j3.mono st4.ge,λu5 h5 s5=>⟨jO,?_⟩⟩)
 have st5:=st4.tZ s5
 have E1:=D1.sZ s5
 have E2:=D2.sZ s5
 have e1l:=E1.1
 have e2l:=E2.1
 simp(disch:=first|omega|simp only[zz];try omega;done) only[↓reduceIte,go_sem,E1.at,E1.2.1,E2.at,E2.2.1]
 refine jC (.inr (.inr ⟨rfl,u5,_,_,r.2.2.2.2.1,rfl,i4.mono st5.ge,j4.mono st5.ge,zE,?_⟩))
 simp only[↓reduceIte,go_sem,jN]
 exact hK _ _ st5
def aaZ:lq:=λf vs h K _=>(f=87/\xk oq vs h K)\/(f=88/\vv uL vs h K)
theorem OU:lQ Tryz.prog aaZ:=lY TA (pX Kj)
theorem WX(hC:xk oq vs h K):kN Tryz.prog 48 vs h K KP:=by
 obtain⟨u,r,la,lb,rfl,ha,hb,hK⟩:=hC
 have har:=ha
 have hbr:=hb
 rw[sK]at ha hb
 obtain⟨a0,a1,a2,a3,a4,rfl,i0,i1,i2,i3,i4⟩:=ha
 obtain⟨b0,b1,b2,b3,b4,rfl,j0,j1,j2,j3,j4⟩:=hb
 refine jJ 31 [(none,(.t 4))] OU Tryz.func48 ?_
 have s1:=jD.qZ S0 u h #[Jx JT r.1.1,a0,a1,a2,a3,a4,Jx JT r.2.2.2.2.2] 87
 have B1:=jR.newc (u:=u) (h:=h) [Jx JT r.1.1,a0,a1,a2,a3,a4,Jx JT r.2.2.2.2.2] 87
 have s2:=jD.qZ S0 (ub u h.size 0) (h.push (.cells #[Jx JT r.1.1,a0,a1,a2,a3,a4,Jx JT r.2.2.2.2.2] 87)) #[Jx JT r.1.1,b0,b1,b2,b3,b4,Jx JT r.2.2.2.2.2] 87
 have B2:=jR.newc (u:=ub u h.size 0) (h:=h.push (.cells #[Jx JT r.1.1,a0,a1,a2,a3,a4,Jx JT r.2.2.2.2.2] 87)) [Jx JT r.1.1,b0,b1,b2,b3,b4,Jx JT r.2.2.2.2.2] 87
 have B1:=B1.sZ s2
 have st2:=s1.tZ s2
 simp only[kw]at B2
 obtain⟨u2,hu2⟩:=kg (ub (ub u h.size 0) (h.size+1) 0)
 simp only[kw]at st2 B1
 rw[<-hu2]at B1 B2 st2
 simp(disch:=first|omega|simp only[zz];try omega;done) only[↓reduceIte,go_sem]
 refine jC (.inl ⟨rfl,u2,r,[Jx JT r.1.1,a0,a1,a2,a3,a4,Jx JT r.2.2.2.2.2],[Jx JT r.1.1,b0,b1,b2,b3,b4,Jx JT r.2.2.2.2.2],rfl,Rep.mono st2.ge har,Rep.mono st2.ge hbr,λu3 h3 s3=>⟨jO,?_⟩⟩)
 have st3:=st2.tZ s3
 have C1:=B1.sZ s3
 have C2:=B2.sZ s3
 have c1l:=C1.1
 have c2l:=C2.1
 simp(disch:=first|omega|simp only[zz];try omega;done) only[↓reduceIte,go_sem,C1.at,C1.2.1,C2.at,C2.2.1]
 refine jC (.inr ⟨rfl,u3,_,_,r.1.2,rfl,i0.mono st3.ge,j0.mono st3.ge,λu4 h4 s4=>⟨jO,?_⟩⟩)
 simp only[↓reduceIte,go_sem,jN]
 exact hK _ _ (st3.tZ s4)
end Go.Proofs.Z
namespace Go.Ev
open Go Edict
theorem BJ{u:U}{h:H}{k:Gn}{cs:List Value}:Rep.rep u h k cs= ∃v0 v1 v2 v3,cs=[v0,v1,v2,v3]/\jS u h v0 k.1/\jS u h v1 k.2.1/\jS u h v2 k.2.2.1/\jS u h v3 k.2.2.2:=by
 rw[lg];simp only[lg (β:=List oq×List sj),lg (α:=List oq) (β:=List sj),mf];apply propext;constructor
 ·rintro ⟨_,_,rfl,⟨v0,rfl,h0⟩,_,_,rfl,⟨v1,rfl,h1⟩,_,_,rfl,⟨v2,rfl,h2⟩,v3,rfl,h3⟩;exact⟨v0,v1,v2,v3,rfl,h0,h1,h2,h3⟩
 ·rintro ⟨v0,v1,v2,v3,rfl,h0,h1,h2,h3⟩;exact⟨_,_,rfl,⟨v0,rfl,h0⟩,_,_,rfl,⟨v1,rfl,h1⟩,_,_,rfl,⟨v2,rfl,h2⟩,v3,rfl,h3⟩
end Go.Ev
namespace Go.Proofs.Z
open Go Go.Ev Edict
variable {vs:List Value} {h:H} {K:Value->H->Prop} {KP:List PanicEntry->H->Prop}
theorem Ty(hC:xk Gn vs h K):kN Tryz.prog 46 vs h K KP:=by
 obtain⟨u,c,la,lb,rfl,ha,hb,hK⟩:=hC
 rw[BJ]at ha hb
 obtain⟨a0,a1,a2,a3,rfl,i0,i1,i2,i3⟩:=ha
 obtain⟨b0,b1,b2,b3,rfl,j0,j1,j2,j3⟩:=hb
 obtain⟨x0,y0,rfl,q0,q0'⟩:=i0.sl
 obtain⟨x1,y1,rfl,q1,q1'⟩:=i1.sl
 obtain⟨z0,w0,rfl,-,-⟩:=j0.sl
 obtain⟨z1,w1,rfl,-,-⟩:=j1.sl
 have hm:=lC
 refine jJ 288266660173840511 [(none,(.t 4))] (G:=(λ_ _ _ _ _=>False)) (λ_ _ _ _ _ h=>h.elim) Tryz.func46 ?_
 have s1:=jD.qZ S0 u h #[.slice x0 c.1.length y0,.slice x1 c.2.1.length y1,a2,a3] 38
 have B1:=jR.newc (u:=u) (h:=h) [.slice x0 c.1.length y0,.slice x1 c.2.1.length y1,a2,a3] 38
 have s2:=jD.qZ S0 (ub u h.size 0) (h.push (.cells #[.slice x0 c.1.length y0,.slice x1 c.2.1.length y1,a2,a3] 38)) #[.slice z0 c.1.length w0,.slice z1 c.2.1.length w1,b2,b3] 38
 have B2:=jR.newc (u:=ub u h.size 0) (h:=h.push (.cells #[.slice x0 c.1.length y0,.slice x1 c.2.1.length y1,a2,a3] 38)) [.slice z0 c.1.length w0,.slice z1 c.2.1.length w1,b2,b3] 38
 have B1:=B1.sZ s2
 have st:=s1.tZ s2
 simp only[kw]at B2
 simp(disch:=first|omega|simp only[zz];try omega;done) only[↓reduceIte,go_sem]
 obtain⟨h2,hh2⟩:=kg ((h.push (.cells #[.slice x0 c.1.length y0,.slice x1 c.2.1.length y1,a2,a3] 38)).push (.cells #[.slice z0 c.1.length w0,.slice z1 c.2.1.length w1,b2,b3] 38))
 obtain⟨u2,hu2⟩:=kg (ub (ub u h.size 0) (h.size+1) 0)
 simp only[kw]at st B1
 rw[<-hh2,<-hu2]at st B1 B2
 rw[<-hh2]
 have b1l:=B1.1
 have b2l:=B2.1
 obtain⟨I,hI⟩:=kg (α:=Nat->ku->H->Prop) λi σ h'=>σ 2= .pointer (some ⟨h.size,0,none⟩)/\σ 3= .pointer (some ⟨h.size+1,0,none⟩)/\σ 5= Jx JT i/\i<=c.1.length/\h'=h2
 refine jE I (λi=>c.1.length - i) 0 (by rw[hI];exact⟨zJ,zJ,zJ,aj _,rfl⟩) ?_
 intro i σ h' hy
 rw[hI]at hy
 obtain⟨e2,e3,e5,hi,rfl⟩:=hy
 by_cases hlt:i<c.1.length
 ·obtain⟨x,hs⟩: ∃x,c.1[i]? =some x:=⟨c.1[i],by simp [hlt]⟩
  obtain⟨pb,po,rfl,hpb,hpu,hpz,hpr⟩:=(i0.mono st.ge).row i x hs
  obtain⟨qb,qo,rfl,hqb,hqu,hqz,hqr⟩:=(j0.mono st.ge).row i x hs
  simp only[Ak,NQ,CP,ax,aC]at hpr hpu hpz hqr hqu hqz
  simp(disch:=first|omega|simp only[zz];try omega;done) only[↓reduceIte,go_sem,e2,e3,e5,hlt,B1.at,B1.2.1,B2.at,B2.2.1,hpr.1,hpr.2,hqr.1,hqr.2]
  refine⟨i+1,?_,zO⟩
  rw[hI]
  exact⟨by simp [jI,e2],by simp [jI,e3],zJ,hlt,rfl⟩
 ·obtain rfl:i=c.1.length:=zO
  simp(disch:=first|omega|simp only[zz];try omega;done) only[↓reduceIte,go_sem,e2,e5,B1.at,B1.2.1]
  clear hI I
  obtain⟨I,hI⟩:=kg (α:=Nat->ku->H->Prop) λi σ h''=>σ 2= .pointer (some ⟨h.size,0,none⟩)/\σ 3= .pointer (some ⟨h.size+1,0,none⟩)/\σ 6= Jx JT i/\i<=c.2.1.length/\h''=h'
  refine jE I (λi=>c.2.1.length - i) 0 (by rw[hI];exact⟨by simp [jI,e2],by simp [jI,e3],zJ,aj _,rfl⟩) ?_
  intro i τ h'' hy
  rw[hI]at hy
  obtain⟨f2,f3,f6,hi,rfl⟩:=hy
  by_cases hlt:i<c.2.1.length
  ·obtain⟨x,hs⟩: ∃x,c.2.1[i]? =some x:=⟨c.2.1[i],by simp [hlt]⟩
   obtain⟨pb,po,rfl,hpb,hpu,hpz,hpr⟩:=(i1.mono st.ge).row i x hs
   obtain⟨qb,qo,rfl,hqb,hqu,hqz,hqr⟩:=(j1.mono st.ge).row i x hs
   simp only[mZ,EG,uq,ax,aC]at hpr hpu hpz hqr hqu hqz
   simp(disch:=first|omega|simp only[zz];try omega;done) only[↓reduceIte,go_sem,f2,f3,f6,hlt,B1.at,B1.2.1,B2.at,B2.2.1,hpr.1,hpr.2.1,hpr.2.2,hqr.1,hqr.2.1,hqr.2.2]
   refine⟨i+1,?_,zO⟩
   rw[hI]
   exact⟨by simp [jI,f2],by simp [jI,f3],zJ,hlt,rfl⟩
  ·obtain rfl:i=c.2.1.length:=zO
   simp(disch:=first|omega|simp only[zz];try omega;done) only[↓reduceIte,go_sem,f2,f6,B1.at,B1.2.1]
   exact hK _ _ st
def aaX:lq:=λf vs h K _=>(f=46/\xk Gn vs h K)\/(f=47/\vv sj vs h K)\/(f=48/\xk oq vs h K)
theorem OQ:lQ Tryz.prog aaX:=lY Ty (lY aaY (pX WX))
theorem WU(hC:xk Gn vs h K):kN Tryz.prog 10 vs h K KP:=by
 obtain⟨u,c,la,lb,rfl,ha,hb,hK⟩:=hC
 have har:=ha
 have hbr:=hb
 rw[BJ]at ha hb
 obtain⟨a0,a1,a2,a3,rfl,i0,i1,i2,i3⟩:=ha
 obtain⟨b0,b1,b2,b3,rfl,j0,j1,j2,j3⟩:=hb
 obtain⟨x2,y2,rfl,q2,q2'⟩:=i2.sl
 obtain⟨z2,w2,rfl,-,-⟩:=j2.sl
 have hm:=lC
 refine jJ 35186586681407 [(none,(.t 4))] OQ Tryz.func10 ?_
 have s1:=jD.qZ S0 u h #[a0,a1,.slice x2 c.2.2.1.length y2,a3] 38
 have B1:=jR.newc (u:=u) (h:=h) [a0,a1,.slice x2 c.2.2.1.length y2,a3] 38
 have s2:=jD.qZ S0 (ub u h.size 0) (h.push (.cells #[a0,a1,.slice x2 c.2.2.1.length y2,a3] 38)) #[b0,b1,.slice z2 c.2.2.1.length w2,b3] 38
 have B2:=jR.newc (u:=ub u h.size 0) (h:=h.push (.cells #[a0,a1,.slice x2 c.2.2.1.length y2,a3] 38)) [b0,b1,.slice z2 c.2.2.1.length w2,b3] 38
 have B1:=B1.sZ s2
 have st:=s1.tZ s2
 simp only[kw]at B2 st B1
 obtain⟨u2,hu2⟩:=kg (ub (ub u h.size 0) (h.size+1) 0)
 rw[<-hu2]at st B1 B2
 simp(disch:=first|omega|simp only[zz];try omega;done) only[↓reduceIte,go_sem]
 refine jC (.inl ⟨rfl,u2,c,[a0,a1,.slice x2 c.2.2.1.length y2,a3],[b0,b1,.slice z2 c.2.2.1.length w2,b3],rfl,Rep.mono st.ge har,Rep.mono st.ge hbr,λu3 h3 s3=>⟨jO,?_⟩⟩)
 have st3:=st.tZ s3
 have C1:=B1.sZ s3
 have C2:=B2.sZ s3
 have c1l:=C1.1
 have c2l:=C2.1
 simp(disch:=first|omega|simp only[zz];try omega;done) only[↓reduceIte,go_sem,C1.at,C1.2.1,C2.at,C2.2.1]
 refine jC (.inr (.inl ⟨rfl,u3,_,_,c.2.2.2,rfl,i3.mono st3.ge,j3.mono st3.ge,λu4 h4 s4=>⟨jO,?_⟩⟩))
 have st4:=st3.tZ s4
 have D1:=C1.sZ s4
 have D2:=C2.sZ s4
 simp only[↓reduceIte,go_sem,jN]
 obtain⟨I,hI⟩:=kg (α:=Nat->ku->H->Prop) λi σ h'=>σ 2= .pointer (some ⟨h.size,0,none⟩)/\σ 3= .pointer (some ⟨h.size+1,0,none⟩)/\σ 5= Jx JT i/\i<=c.2.2.1.length/\ ∃u',jD S0 u h u' h'/\jR u' h' h.size [a0,a1,.slice x2 c.2.2.1.length y2,a3]/\jR u' h' (h.size+1) [b0,b1,.slice z2 c.2.2.1.length w2,b3]
 refine jE I (λi=>c.2.2.1.length - i) 0 (by rw[hI];exact⟨zJ,zJ,zJ,aj _,u4,st4,D1,D2⟩) ?_
 intro i σ h' hy
 rw[hI]at hy
 obtain⟨e2,e3,e5,hi,u',st',A,B⟩:=hy
 have al:=A.1
 have bl:=B.1
 by_cases hlt:i<c.2.2.1.length
 ·obtain⟨x,hs⟩: ∃x,c.2.2.1[i]? =some x:=⟨c.2.2.1[i],by simp [hlt]⟩
  obtain⟨pb,po,rfl,hpb,hpu,hpz,hpr⟩:=(i2.mono st'.ge).row i x hs
  obtain⟨qb,qo,rfl,hqb,hqu,hqz,hqr⟩:=(j2.mono st'.ge).row i x hs
  have hprs:=hpr
  have hqrs:=hqr
  rw[sK]at hpr hqr
  obtain⟨p0,p1,p2,p3,p4,hpr,-⟩:=hpr
  obtain⟨g0,g1,g2,g3,g4,hqr,-⟩:=hqr
  rw[hpr]at hprs
  rw[hqr]at hqrs
  simp only[agk,aho,ax,aC]at hpr hpu hpz hqr hqu hqz
  obtain⟨c0,c1,c2,c3,c4,c5,c6⟩:=hpr
  obtain⟨d0,d1,d2,d3,d4,d5,d6⟩:=hqr
  simp(disch:=first|omega|simp only[zz];try omega;done) only[↓reduceIte,go_sem,e2,e3,e5,hlt,A.at,A.2.1,B.at,B.2.1,c0,c1,c2,c3,c4,c5,c6,d0,d1,d2,d3,d4,d5,d6]
  refine jC (.inr (.inr ⟨rfl,u',x,[Jx JT x.1.1,p0,p1,p2,p3,p4,Jx JT x.2.2.2.2.2],[Jx JT x.1.1,g0,g1,g2,g3,g4,Jx JT x.2.2.2.2.2],rfl,hprs,hqrs,λu5 h5 s5=>⟨jO,?_⟩⟩))
  simp(disch:=omega) only[↓reduceIte,go_sem,e5]
  refine⟨i+1,?_,zO⟩
  rw[hI]
  exact⟨by simp [jI,e2],by simp [jI,e3],zJ,hlt,u5,st'.tZ s5,A.sZ s5,B.sZ s5⟩
 ·obtain rfl:i=c.2.2.1.length:=zO
  simp(disch:=first|omega|simp only[zz];try omega;done) only[↓reduceIte,go_sem,e2,e5,A.at,A.2.1]
  exact hK _ _ st'
end Go.Proofs.Z
