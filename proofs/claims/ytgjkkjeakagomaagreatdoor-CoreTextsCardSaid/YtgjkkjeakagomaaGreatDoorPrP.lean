/- A part of the proof. -/
import Derived.Test.YtgjkkjeakagomaaGreatDoorPrM
set_option linter.all false
set_option maxRecDepth 100000
set_option maxHeartbeats 4000000
open Go.Value renaming int→Jx
open Go.IntKind renaming i64→JT
namespace Go.Proofs.Z
open Go Go.Ev Edict
variable {vs:List Value} {h:H} {K:Value->H->Prop} {KP:List PanicEntry->H->Prop}
def abn(c l t:Nat):Value:= .agg #[Jx JT c,Jx JT l,Jx JT t]
def YX(vs:List Value)(h:H)(K:Value->H->Prop):Prop:= ∃(u:U) (c l t:Nat) (s k:Int),vs=[abn c l t,Jx JT s,Jx JT k]/\c<=70000/\l<=70000/\t<=70000/\ ∀u' h',jD S0 u h u' h'->K (abn (zy s k c) (zA s k l) (zB s k t)) h'
theorem abo(hC:YX vs h K):kN Tryz.prog 57 vs h K KP:=by
 obtain⟨u,c,l,t,s,k,rfl,hc,hl,ht,hK⟩:=hC
 refine jJ 316661513060559 [((some (.c1 (.ldn 3) (.t 6))),(.o1 (.ldn 3) (.t 6)))] (G:=(λ_ _ _ _ _=>False)) (λ_ _ _ _ _ h=>h.elim) Tryz.func57 ?_
 simp only[abn]at hK ⊢
 by_cases h0:(s=0\/s=15)/\k=1
 ·have e1:zy s k c=c+1:=by unfold zy;rw[ah h0]
  have e2:zA s k l=l:=by unfold zA;rw[af zO,af zO]
  have e3:zB s k t=t:=by unfold zB;rw[af zO,af zO]
  rw[e1,e2,e3]at hK
  obtain⟨rfl|rfl,rfl⟩:=h0
  ·simp(disch:=first|omega|simp only[zz];try omega;done) only[↓reduceIte,go_sem]
   exact hK _ _ (jD.refl _ _ _).pZ.pZ
  ·simp(disch:=first|omega|simp only[zz];try omega;done) only[↓reduceIte,go_sem]
   exact hK _ _ (jD.refl _ _ _).pZ.pZ
 have e1:zy s k c=c:=by unfold zy;rw[af h0]
 rw[e1]at hK
 have n0:s=0-> ¬k=1:=λa b=>h0 ⟨.inl a,b⟩
 have n15:s=15-> ¬k=1:=λa b=>h0 ⟨.inr a,b⟩
 by_cases h5:s=5
 ·subst h5
  have e3:zB 5 k t=if k=5 then 0 else t:=by simp [zB]
  have e2:zA 5 k l=if k=9 then 0 else l+1:=by simp [zA]
  rw[e2,e3]at hK
  by_cases k5:k=5
  ·subst k5
   simp(disch:=first|omega|simp only[zz];try omega;done) only[↓reduceIte,go_sem]
   exact hK _ _ (jD.refl _ _ _).pZ.pZ
  by_cases k9:k=9
  ·subst k9
   simp(disch:=first|omega|simp only[zz];try omega;done) only[↓reduceIte,go_sem]
   exact hK _ _ (jD.refl _ _ _).pZ.pZ
  rw[af k5,af k9]at hK
  simp(disch:=first|omega|simp only[zz];try omega;done) only[↓reduceIte,go_sem,ae k5,ae k9]
  exact hK _ _ (jD.refl _ _ _).pZ.pZ
 have e2:zA s k l=if k=9 then 0 else l:=by simp [zA,h5]
 rw[e2]at hK
 by_cases hs:s=2\/s=9\/s=17\/s=22
 ·have e3:zB s k t=if k=5 then 0 else t+1:=by simp [zB,hs]
  rw[e3]at hK
  rcases hs with rfl|rfl|rfl|rfl
  all_goals
   by_cases k5:k=5
   ·subst k5
    simp(disch:=first|omega|simp only[zz];try omega;done) only[↓reduceIte,go_sem]
    exact hK _ _ (jD.refl _ _ _).pZ.pZ
   by_cases k9:k=9
   ·subst k9
    simp(disch:=first|omega|simp only[zz];try omega;done) only[↓reduceIte,go_sem]
    exact hK _ _ (jD.refl _ _ _).pZ.pZ
   rw[af k5,af k9]at hK
   simp(disch:=first|omega|simp only[zz];try omega;done) only[↓reduceIte,go_sem,ae k5,ae k9]
   exact hK _ _ (jD.refl _ _ _).pZ.pZ
 have e3:zB s k t=if k=5 then 0 else t:=by simp [zB,hs]
 rw[e3]at hK
 have m2: ¬s=2:=λq=>hs (.inl q)
 have m9: ¬s=9:=λq=>hs (.inr (.inl q))
 have m17: ¬s=17:=λq=>hs (.inr (.inr (.inl q)))
 have m22: ¬s=22:=λq=>hs (.inr (.inr (.inr q)))
 by_cases k5:k=5
 ·subst k5
  by_cases z0:s=0
  ·subst z0
   simp(disch:=first|omega|simp only[zz];try omega;done) only[↓reduceIte,go_sem]
   exact hK _ _ (jD.refl _ _ _).pZ.pZ
  by_cases z15:s=15
  ·subst z15
   simp(disch:=first|omega|simp only[zz];try omega;done) only[↓reduceIte,go_sem]
   exact hK _ _ (jD.refl _ _ _).pZ.pZ
  simp(disch:=first|omega|simp only[zz];try omega;done) only[↓reduceIte,go_sem,ae z0,ae z15,ae h5,ae m2,ae m9,ae m17,ae m22]
  exact hK _ _ (jD.refl _ _ _).pZ.pZ
 by_cases k9:k=9
 ·subst k9
  by_cases z0:s=0
  ·subst z0
   simp(disch:=first|omega|simp only[zz];try omega;done) only[↓reduceIte,go_sem]
   exact hK _ _ (jD.refl _ _ _).pZ.pZ
  by_cases z15:s=15
  ·subst z15
   simp(disch:=first|omega|simp only[zz];try omega;done) only[↓reduceIte,go_sem]
   exact hK _ _ (jD.refl _ _ _).pZ.pZ
  simp(disch:=first|omega|simp only[zz];try omega;done) only[↓reduceIte,go_sem,ae z0,ae z15,ae h5,ae m2,ae m9,ae m17,ae m22]
  exact hK _ _ (jD.refl _ _ _).pZ.pZ
 rw[af k5,af k9]at hK
 by_cases z0:s=0
 ·have k1:=n0 z0
  subst z0
  simp(disch:=first|omega|simp only[zz];try omega;done) only[↓reduceIte,go_sem,ae k5,ae k9,ae k1]
  exact hK _ _ (jD.refl _ _ _).pZ.pZ
 by_cases z15:s=15
 ·have k1:=n15 z15
  subst z15
  simp(disch:=first|omega|simp only[zz];try omega;done) only[↓reduceIte,go_sem,ae k5,ae k9,ae k1]
  exact hK _ _ (jD.refl _ _ _).pZ.pZ
 simp(disch:=first|omega|simp only[zz];try omega;done) only[↓reduceIte,go_sem,ae z0,ae z15,ae h5,ae m2,ae m9,ae m17,ae m22,ae k5,ae k9]
 exact hK _ _ (jD.refl _ _ _).pZ.pZ
def YY(vs:List Value)(h:H)(K:Value->H->Prop):Prop:= ∃(u:U) (c l t:Nat) (f:Int),vs=[abn c l t,Jx JT f]/\ ∀u' h',jD S0 u h u' h'->K (Jx JT (ww f c l t)) h'
theorem abp(hC:YY vs h K):kN Tryz.prog 58 vs h K KP:=by
 obtain⟨u,c,l,t,f,rfl,hK⟩:=hC
 refine jJ 17825847 [(none,(.t 4))] (G:=(λ_ _ _ _ _=>False)) (λ_ _ _ _ _ h=>h.elim) Tryz.func58 ?_
 have hK': ∀(a:Array Value) (T:TypeId),K (Jx JT (ww f c l t)) (h.push (.cells a T)):=λa T=>hK _ _ (jD.qZ S0 u h a T)
 clear hK
 revert hK'
 simp only[abn]
 have over_val:ww f c l t=if yN f c=true then 24 else if 16<l then 23 else if 8<t then 22 else 0:=rfl
 by_cases f0:f=0
 ·subst f0
  by_cases hc:512<c
  ·rw[show ww 0 c l t=24 by rw[over_val,ah (by simp [yN,hc])]]
   intro hK'
   simp(disch:=omega) only[↓reduceIte,go_sem,ai (show(512:Int)<(c:Nat) by omega)]
   exact hK' _ _
  rw[over_val,af (by simp [yN];omega)]
  by_cases hl:16<l
  ·rw[ah hl]
   intro hK'
   simp(disch:=omega) only[↓reduceIte,go_sem,ae (show¬(512:Int)<(c:Nat) by omega),ai (show(16:Int)<(l:Nat) by omega)]
   exact hK' _ _
  rw[af hl]
  by_cases ht:8<t
  ·rw[ah ht]
   intro hK'
   simp(disch:=omega) only[↓reduceIte,go_sem,ae (show¬(512:Int)<(c:Nat) by omega),ae (show¬(16:Int)<(l:Nat) by omega),ai (show(8:Int)<(t:Nat) by omega)]
   exact hK' _ _
  rw[af ht]
  intro hK'
  simp(disch:=omega) only[↓reduceIte,go_sem,ae (show¬(512:Int)<(c:Nat) by omega),ae (show¬(16:Int)<(l:Nat) by omega),ae (show¬(8:Int)<(t:Nat) by omega)]
  exact hK' _ _
 by_cases f15:f=15
 ·subst f15
  by_cases hc:4096<c
  ·rw[show ww 15 c l t=24 by rw[over_val,ah (by simp [yN,hc])]]
   intro hK'
   simp(disch:=omega) only[↓reduceIte,go_sem,ai (show(4096:Int)<(c:Nat) by omega)]
   exact hK' _ _
  rw[over_val,af (by simp [yN];omega)]
  by_cases hl:16<l
  ·rw[ah hl]
   intro hK'
   simp(disch:=omega) only[↓reduceIte,go_sem,ae (show¬(4096:Int)<(c:Nat) by omega),ai (show(16:Int)<(l:Nat) by omega)]
   exact hK' _ _
  rw[af hl]
  by_cases ht:8<t
  ·rw[ah ht]
   intro hK'
   simp(disch:=omega) only[↓reduceIte,go_sem,ae (show¬(4096:Int)<(c:Nat) by omega),ae (show¬(16:Int)<(l:Nat) by omega),ai (show(8:Int)<(t:Nat) by omega)]
   exact hK' _ _
  rw[af ht]
  intro hK'
  simp(disch:=omega) only[↓reduceIte,go_sem,ae (show¬(4096:Int)<(c:Nat) by omega),ae (show¬(16:Int)<(l:Nat) by omega),ae (show¬(8:Int)<(t:Nat) by omega)]
  exact hK' _ _
 rw[over_val,af (by simp [yN,f0,f15])]
 by_cases hl:16<l
 ·rw[ah hl]
  intro hK'
  simp(disch:=omega) only[↓reduceIte,go_sem,ae f0,ae f15,ai (show(16:Int)<(l:Nat) by omega)]
  exact hK' _ _
 rw[af hl]
 by_cases ht:8<t
 ·rw[ah ht]
  intro hK'
  simp(disch:=omega) only[↓reduceIte,go_sem,ae f0,ae f15,ae (show¬(16:Int)<(l:Nat) by omega),ai (show(8:Int)<(t:Nat) by omega)]
  exact hK' _ _
 rw[af ht]
 intro hK'
 simp(disch:=omega) only[↓reduceIte,go_sem,ae f0,ae f15,ae (show¬(16:Int)<(l:Nat) by omega),ae (show¬(8:Int)<(t:Nat) by omega)]
 exact hK' _ _
def Pe(vs:List Value)(h:H)(K:Value->H->Prop):Prop:= ∃(u:U) (t:kR),vs=[.agg (kU t).toArray]/\ ∀u' h',jD S0 u h u' h'->K (.agg (tQ (kM t)).toArray) h'
theorem MK(hC:Pe vs h K):kN Tryz.prog 60 vs h K KP:=by
 obtain⟨u,t,rfl,hK⟩:=hC
 refine jJ 528439 [((some (.c1 (.ldn 4) (.t 2))),(.o1 (.ldn 4) (.t 2)))] (G:=(λ_ _ _ _ _=>False)) (λ_ _ _ _ _ h=>h.elim) Tryz.func60 ?_
 simp only[kU]
 by_cases k3:t.1=3
 ·have hT:kM t=(1,tI t,[],tO t):=by unfold kM tK;simp [k3]
  rw[hT]at hK
  simp only[tQ,tI,tO]at hK
  simp(disch:=first|omega|simp only[zz];try omega;done) only[↓reduceIte,go_sem,ai k3]
  exact hK _ _ (jD.refl _ _ _).pZ.pZ
 by_cases k1:t.1=1
 ·have hT:kM t=(2,0,tX t,tO t):=by unfold kM tK;simp [k1]
  rw[hT]at hK
  simp only[tQ,tO,tX]at hK
  simp(disch:=first|omega|simp only[zz];try omega;done) only[↓reduceIte,go_sem,ae k3,ai k1]
  exact hK _ _ (jD.refl _ _ _).pZ.pZ
 by_cases k4:t.1=4
 ·have hT:kM t=(3,0,tX t,tO t):=by unfold kM tK;simp [k4]
  rw[hT]at hK
  simp only[tQ,tO,tX]at hK
  simp(disch:=first|omega|simp only[zz];try omega;done) only[↓reduceIte,go_sem,ae k3,ae k1,ai k4]
  exact hK _ _ (jD.refl _ _ _).pZ.pZ
 have hT:kM t=(4,0,tX t,tO t):=by unfold kM tK;simp [k1,k3,k4]
 rw[hT]at hK
 simp only[tQ,tO,tX]at hK
 simp(disch:=first|omega|simp only[zz];try omega;done) only[↓reduceIte,go_sem,ae k3,ae k1,ae k4]
 exact hK _ _ (jD.refl _ _ _).pZ.pZ
end Go.Proofs.Z
namespace Go.Proofs.Z
open Go Go.Ev Edict
def Ha(vs:List Value)(h:H)(K:Value->H->Prop):Prop:= ∃(u:U) (v:Value) (t:kR) (l:List kR),vs=[v]/\jS u h v (t::l)/\l.length<=65537/\ ∀u' h' w,jD S0 u h u' h'->lm h.size u' h' w (lX l)->K (.agg #[str (tX t),w,Jx JT (tO t)]) h'
def ak6:lq:=λf vs h K _=>(f=59/\Pf vs h K)\/(f=60/\Pe vs h K)
theorem aeF:lQ Tryz.prog ak6:=lY AR (pX MK)
theorem Gf(l:List kR)(t:kR):lX (l++[t])=lX l++(if pK (tK t) true=true then [kM t]else []):=by
 unfold lX
 rw[eY,bH]
 by_cases h:pK (tK t) true=true
 ·simp [h]
 ·simp [h]
theorem Xl(l:List kR):(lX l).length<=l.length:=by unfold lX;rw[aU];exact bW _ _
theorem Fq{vs:List Value}{h:H}{K:Value->H->Prop}{KP:List PanicEntry->H->Prop}(hC:Ha vs h K):kN Tryz.prog 22 vs h K KP:=by
 obtain⟨u,v,t,l,rfl,hi,hll,hK⟩:=hC
 obtain⟨a,c,rfl,q1,q2⟩:=hi.sl
 have hlen:(t::l).length=l.length+1:=rfl
 simp only[hlen]at hi q1 ⊢
 refine jJ 17760301 [((some (.c1 (.ldn 3) (.t 2))),(.o1 (.ldn 3) (.t 2)))] aeF Tryz.func22 ?_
 have s1:=jD.qZ S0 u h #[str [],.slice none 0 0,Jx JT 0] 51
 have B1:=jR.new (u:=u) (h:=h) [str [],.slice none 0 0,Jx JT 0] 51
 obtain⟨h1,hh1⟩:=kg (h.push (.cells #[str [],.slice none 0 0,Jx JT 0] 51))
 obtain⟨u1,hu1⟩:=kg (ub u h.size 0)
 have B1':jR u1 h1 h.size [str [],.slice none 0 0,Jx JT 0]:=by rw[hu1,hh1];exact B1
 rw[<-hh1,<-hu1]at s1
 clear B1
 have v1:=hi.mono s1.ge
 obtain⟨pb,po,rfl,hpb,hpu,hpz,hpr⟩:=v1.row 0 t rfl
 rw[qh]at hpr
 simp only[kU,yP,qU,ax,aC,fB,dO]at hpr hpu hpz
 obtain⟨p0,p1,p2,p3,p4,p5⟩:=hpr
 obtain⟨h3,h4,u4,hh3,hh4,B3,B4,s4,hz4⟩:=rA u1 h1 [str [],.slice none 0 0,Jx JT 0] [str t.2.1,.slice none 0 0,Jx JT t.2.2.2.2.1] 51 rfl
 have B14:=B1'.sZ s4
 have v4:=v1.mono s4.ge
 have st4:=s1.tZ s4
 have hb1:=B1'.1
 have B31:=B3.1
 have B41:=B4.1
 have hpu3:hv h3 pb (po+1)=str t.2.1/\hv h3 pb (po+4)= Jx JT t.2.2.2.2.1/\po+6<=lS h3 pb:=by
  rw[hh3]
  exact⟨by rw[uO hpb,p1],by rw[uO hpb,p4],by rw[zK hpb];exact hpz⟩
 obtain⟨g1,g4,gz⟩:=hpu3
 obtain⟨ta,hta⟩:=kg (α:=Option Addr) ((if c=1 then some ⟨pb,po,none⟩else some ⟨pb,po+6,none⟩))
 have hta2:0<l.length->ta=some ⟨pb,po+6,none⟩:=λq=>by rw[hta,af zO]
 have hcut: ∀hh:H,v2 (.cutLo 6) (.slice (some ⟨pb,po,none⟩) (l.length+1) c) (Jx JT 1) hh= .slice ta l.length (c - 1):=λhh=>by rw[hta];simp [v2,ti,Addr.add]
 simp(disch:=omega) only[↓reduceIte,go_sem,<-hh1,ai (show(0:Int)<((l.length+1:Nat):Int) by omega),p1,p4,<-hh3,<-hh4,g1,g4,B3.2.1,B3.2.2.1,hcut,ai (show(1:Int)<=((l.length+1:Nat):Int) by omega)]
 obtain⟨b3,hb3⟩:=kg h1.size
 have hb3s:h.size<b3:=zO
 rw[<-hb3]at B4 ⊢
 obtain⟨I,hI⟩:=kg (α:=Nat->ku->H->Prop) λk σ h'=> ∃(u':U) (w:Value),σ 2= .pointer (some ⟨h.size,0,none⟩)/\σ 3= .pointer (some ⟨b3,0,none⟩)/\σ 16= .slice ta l.length (c - 1)/\σ 17= Jx JT (l.length:Nat)/\σ 18= Jx JT k/\k<=l.length/\jD S0 u h u' h'/\jR u' h' h.size [str [],.slice none 0 0,Jx JT 0]/\jR u' h' b3 [str t.2.1,w,Jx JT t.2.2.2.2.1]/\lm h.size u' h' w (lX (l.take k))/\(∀b,jL w b->b≠h.size/\b≠b3)/\jS u' h' (.slice (some ⟨pb,po,none⟩) (l.length+1) c) (t::l)
 refine jE I (λj=>l.length - j) 0 (by rw[hI];exact⟨u4,_,zJ,zJ,zJ,zJ,zJ,zO,st4,B14,B4,.nil _ _ _,λb ⟨_,_,_,q⟩=>(by cases q),v4⟩) ?_
 clear hh1 hh3 hh4 B3 B31 B41 B4 B14 v4 st4 g1 g4 gz p0 p1 p2 p3 p4 p5 v1 hcut hb1 B1' s4 hz4
 intro k σ h' hy
 rw[hI]at hy
 obtain⟨u',w,e2,e3,e16,e17,e18,hk',st,A,B,ow,hwb,iw⟩:=hy
 obtain⟨va,vc,rfl,n1,n2⟩:=ow.sl
 have hA1:=A.1
 have hB1:=B.1
 have hz:=st.ge.sz
 have hal:=Xl (l.take k)
 rw[aR]at hal
 by_cases hlt:k<l.length
 case neg=>
  rw[cB zO]at ow B hwb
  have w1:=A.sets (l:=[str t.2.1,.slice va (lX l).length vc,Jx JT t.2.2.2.2.1]) rfl
  have s7:=st.rZ (b:=h.size) (o:=0) (l:=[str t.2.1,.slice va (lX l).length vc,Jx JT t.2.2.2.2.1]) (.inl (ak _)) (by rw[A.2.2.2.1];exact aj _) (by rw[A.2.1];exact ak _)
  have s67:=jD.sets (S:=λb=>b=h.size) u' h' (b:=h.size) (o:=0) [str t.2.1,.slice va (lX l).length vc,Jx JT t.2.2.2.2.1] rfl (by rw[A.2.2.2.1];exact aj _) (by rw[A.2.1];exact ak _)
  have hK':=hK _ _ _ s7 (ow.step s67 (λb q q'=>(hwb b q).1 q'))
  simp(disch:=first|omega|simp only[zz];try omega;done) only[↓reduceIte,go_sem,e2,e3,e17,e18,ae (show¬(k:Int)<(l.length:Nat) by omega),B.at,B.2.1,A.2.1,A.2.2.1,w1.at,w1.2.1]
  exact hK'
 obtain⟨x,hx⟩:=qP hlt
 have hta':=hta2 zO
 rw[hta']at e16
 obtain⟨pb',po',hq,hpb,hpu,hpz,hpr⟩:=iw.row (k+1) x (by simpa using hx)
 cases hq
 rw[show po+(k+1)*Rep.sz kR=po+6+k*6 by rw[yP];omega]at hpu hpz hpr
 rw[qh]at hpr
 simp only[kU,yP,qU,ax,aC]at hpr hpu hpz
 obtain⟨p0,p1,p2,p3,p4,p5⟩:=hpr
 obtain⟨h5,h6,u6,hh5,hh6,B5,B6,s6,hz6⟩:=rA u' h' [Jx JT 0,str [],Jx JT 0,Jx JT 0,Jx JT 0,Jx JT 0] (kU x) 46 rfl
 simp only[kU]at hh6 B6
 have A6:=A.sZ s6
 have Bb6:=B.sZ s6
 have ow6:=ow.sZ s6
 have iw6:=iw.mono s6.ge
 have st6:=st.tZ s6
 have B51:=B5.1
 have B61:=B6.1
 have hBb6:=Bb6.1
 have htk:l.take (k+1)=l.take k++[x]:=by rw[aX,hx];rfl
 simp(disch:=first|omega|simp only[zz];try omega;done) only[↓reduceIte,go_sem,e16,e17,e18,ai (show(k:Int)<(l.length:Nat) by omega),p0,p1,p2,p3,p4,p5,<-hh5,<-hh6,B5.2.1,B5.2.2.1,B6.at,B6.2.1]
 refine jC (.inl ⟨rfl,x.1,rfl,⟨jO,?_⟩⟩)
 cases hT:pK x.1 true with
 |false=>
  simp(disch:=omega) only[↓reduceIte,go_sem,e18]
  refine⟨k+1,?_,zO⟩
  rw[hI]
  have hs:lX (l.take (k+1))=lX (l.take k):=by rw[htk,Gf,af (by rw[show tK x=x.1 from rfl,hT];simp),bG]
  rw[<-hs]at ow6 Bb6 hwb
  refine⟨u6,_,?_,?_,?_,?_,?_,hlt,st6,A6,Bb6,ow6,hwb,iw6⟩<;>simp [jI,e2,e3,e16,e17,hta']
 |true=>
  have hs:lX (l.take (k+1))=lX (l.take k)++[kM x]:=by rw[htk,Gf,ah (show pK (tK x) true=true from hT)]
  simp(disch:=first|omega|simp only[zz];try omega;done) only[↓reduceIte,go_sem,e3,Bb6.at,Bb6.2.1,B6.at,B6.2.1]
  refine jC (.inr ⟨rfl,u6,x,rfl,λu7 h7 s7=> ?_⟩)
  have A7:=A6.sZ s7
  have B7:=Bb6.sZ s7
  have ow7:=ow6.sZ s7
  have iw7:=iw6.mono s7.ge
  have st7:=st6.tZ s7
  have hB7:=B7.1
  refine⟨by simp(disch:=first|omega|simp only[zz];try omega;done) only[↓reduceIte,go_sem,e3,Bb6.at,B7.at,B7.2.1],?_⟩
  obtain⟨y,hy⟩:=kg (kM x)
  rw[<-hy]at hs ⊢
  obtain⟨ac,hac⟩:=kg (lX (l.take k))
  rw[<-hac]at hs ow7 B7 hwb hal ⊢
  simp only[tQ]
  simp(disch:=first|omega|simp only[zz];try omega;done) only[↓reduceIte,go_sem,e3,B7.at,B7.2.1]
  refine lD (by simp only[]) ow7 (x:=y) (by rw[Qz];rfl) rfl rfl (by have:=st7.ge.sz;omega) zO λa8 n8 c8 u8 h8 o8 s8 hO8=>⟨jO,?_⟩
  obtain⟨_,_,hme,m81,m82⟩:=o8.sl
  simp only[Value.slice.injEq]at hme
  obtain⟨rfl,rfl,rfl⟩:=hme
  rw[<-hs]at o8 hO8 m81 ⊢
  obtain⟨nl,hnl⟩:=kg ((lX (l.take (k+1))).length)
  rw[<-hnl]at o8 hO8 ⊢
  have A8:=A7.step s8 (λq=>(hwb _ q).1 rfl)
  have B8:=B7.step s8 (λq=>(hwb _ q).2 rfl)
  have hB8:=B8.1
  have hn8: ∀b,jL (.slice a8 nl c8) b->b≠h.size/\b≠b3:=λb q=>(hO8 b q).elim (hwb b) (λz=>zO)
  have B9:=B8.set (i:=1) (v:= .slice a8 nl c8) zP
  have s9:=jD.set (S:=λb=>b=b3) u8 h8 (b:=b3) (o:=1) (.slice a8 nl c8) rfl (by rw[B8.2.2.2.1];exact aj _)
  obtain⟨h9,hh9⟩:=kg (ky h8 b3 1 (.slice a8 nl c8))
  rw[<-hh9]at B9 s9
  simp only[dK,cu]at B9
  have o9:=o8.step s9 (λb q q'=>(hn8 b q).2 q')
  have A9:=A8.step s9 zO
  have st9:=(st7.trans s8 (λb hb q=>by have:=ow7.ge q;omega)).trans s9 (λb hb q=>zO)
  have iw9:=(iw7.mono s8.ge).mono s9.ge
  simp(disch:=omega) only[↓reduceIte,go_sem,e3,e18,B8.2.1,B8.2.2.1,<-hh9]
  refine⟨k+1,?_,zO⟩
  rw[hI]
  refine⟨u8,_,?_,?_,?_,?_,?_,hlt,st9,A9,B9,o9,hn8,iw9⟩<;>simp [jI,e2,e3,e16,e17,hta']
end Go.Proofs.Z
namespace Edict
theorem TL{f s k:Int}(h:jT f s k≠ -1):0<=jT f s k/\jT f s k<=26:=by
 revert h
 unfold jT xy
 repeat' split
 all_goals first|(intro h;exact⟨zD,zD⟩)|(intro h;exact absurd rfl h)|(intro h;omega)
theorem ak4{s k:Int}{c l t n:Nat}(h:c<=n/\l<=n/\t<=n):zy s k c<=n+1/\zA s k l<=n+1/\zB s k t<=n+1:=by
 unfold zy zA zB
 refine⟨?_,?_,?_⟩
 ·split<;>omega
 ·split
  ·omega
  ·split<;>omega
 ·split
  ·omega
  ·split<;>omega
def xD(f:Int)(src:List UInt8):Flt:=if 65536<src.length then(1,0)else mo f (Vn src) f 0 0 0 (ll src).1
end Edict
namespace Go.Proofs.Z
open Go Go.Ev Edict
def Ko(vs:List Value)(h:H)(K:Value->H->Prop):Prop:= ∃(u:U) (src:List UInt8) (f:Int),vs=[str src,Jx JT f]/\src.length<=9223372036854775807/\(0<=f/\f<=26)/\
 ((xD f src).1≠0-> ∀u' h',jD S0 u h u' h'->K (.tuple #[.slice none 0 0,oo (xD f src)]) h')/\
 ((xD f src).1=0-> ∀u' h' w,jD S0 u h u' h'->lm h.size u' h' w (ll src).1->K (.tuple #[w,oo (0,0)]) h')
def ak5:lq:=λfn vs h K _=>(fn=55/\YZ vs h K)\/(fn=56/\TM vs h K)\/(fn=57/\YX vs h K)\/(fn=58/\YY vs h K)
theorem aeE:lQ Tryz.prog ak5:=by
 rintro fn vs h K KP (⟨rfl,hC⟩|⟨rfl,hC⟩|⟨rfl,hC⟩|⟨rfl,hC⟩)
 ·exact abt hC
 ·exact abq hC
 ·exact abo hC
 ·exact abp hC
theorem Kq{vs:List Value}{h:H}{K:Value->H->Prop}{KP:List PanicEntry->H->Prop}(hC:Ko vs h K):kN Tryz.prog 19 vs h K KP:=by
 obtain⟨u,src,f,rfl,hl,hf,hKE,hKO⟩:=hC
 refine jJ 295724438499675421683 [(none,(.t 4)),((some (.c1 (.ldn 3) (.t 5))),(.o1 (.ldn 3) (.t 5)))] aeE Tryz.func19 ?_
 have s1:=jD.qZ S0 u h #[Jx JT 0,Jx JT 0,Jx JT 0] 27
 have B1:=jR.new (u:=u) (h:=h) [Jx JT 0,Jx JT 0,Jx JT 0] 27
 obtain⟨h1,hh1⟩:=kg (h.push (.cells #[Jx JT 0,Jx JT 0,Jx JT 0] 27))
 obtain⟨u1,hu1⟩:=kg (ub u h.size 0)
 have B1':jR u1 h1 h.size [Jx JT 0,Jx JT 0,Jx JT 0]:=by rw[hu1,hh1];exact B1
 rw[<-hh1,<-hu1]at s1
 clear B1
 have hB1:=B1'.1
 unfold xD at hKE hKO
 by_cases hlong:65536<src.length
 ·rw[ah hlong]at hKE
  have w:=B1'.sets (l:=[Jx JT 1,Jx JT 0,Jx JT 0]) rfl
  have s2:=s1.rZ (b:=h.size) (o:=0) (l:=[Jx JT 1,Jx JT 0,Jx JT 0]) (.inl (ak _)) (by rw[B1'.2.2.2.1];exact aj _) (by rw[B1'.2.1];exact ak _)
  have hK':=hKE (show(1:Int)≠0 by decide) _ _ s2
  simp only[oo]at hK'
  simp(disch:=first|omega|simp only[zz];try omega;done) only[↓reduceIte,go_sem,<-hh1,ai (show(65536:Int)<(src.length:Nat) by omega),B1'.2.1,B1'.2.2.1,w.at,w.2.1]
  exact hK'
 rw[af hlong]at hKE hKO
 simp only[↓reduceIte,go_sem,<-hh1,ae (show¬(65536:Int)<(src.length:Nat) by omega)]
 refine jC (.inl ⟨rfl,u1,src,rfl,hl,λu2 h2 v s2 o2=>⟨jO,?_⟩⟩)
 have hgood:=Ae (src:=src) zO
 have hbe:Vn src=((ll src).2.1,((ll src).2.2:Int)):=rfl
 obtain⟨L,hL⟩:=kg ((ll src).1)
 obtain⟨c2,hc2⟩:=kg ((ll src).2.1)
 obtain⟨p2,hp2⟩:=kg ((ll src).2.2)
 have hLl:L.length<=65537:=by rw[hL];exact vG src
 rw[hbe,<-hL,<-hc2,<-hp2]at hKE hKO hgood
 rw[<-hL]at o2
 rw[<-hc2,<-hp2]
 obtain⟨ta,tc,rfl,m1,m2⟩:=o2.sl
 obtain⟨h3,h4,u4,hh3,hh4,B3,B4,s4,hz4⟩:=rA u2 h2 [Jx JT 0,Jx JT 0,Jx JT 0] (jH c2 p2) 27 rfl
 have F4:=(B1'.sZ s2).sZ s4
 have o4:=o2.sZ s4
 have st4:=(s1.tZ s2).tZ s4
 have B31:=B3.1
 have B41:=B4.1
 have hz2:h1.size<=h2.size:=s2.ge.sz
 have s5:=jD.qZ S0 u4 h4 #[Jx JT 0,Jx JT 0,Jx JT 0] 134
 have B5:=jR.new (u:=u4) (h:=h4) [Jx JT 0,Jx JT 0,Jx JT 0] 134
 obtain⟨h5,hh5⟩:=kg (h4.push (.cells #[Jx JT 0,Jx JT 0,Jx JT 0] 134))
 obtain⟨u5,hu5⟩:=kg (ub u4 h4.size 0)
 have B5':jR u5 h5 h4.size [Jx JT 0,Jx JT 0,Jx JT 0]:=by rw[hu5,hh5];exact B5
 rw[<-hh5,<-hu5]at s5
 clear B5
 have F5:=F4.sZ s5
 have E5:=B4.sZ s5
 have o5:=o4.sZ s5
 have st5:=st4.tZ s5
 simp only[jH]at hh4 B4 E5 ⊢
 simp(disch:=omega) only[↓reduceIte,go_sem,<-hh3,<-hh4,B3.2.1,B3.2.2.1,<-hh5]
 obtain⟨eb,heb⟩:=kg h2.size
 obtain⟨cb,hcb⟩:=kg h4.size
 have hbs:h.size<eb/\eb<cb:=zO
 rw[<-heb]at E5 ⊢
 rw[<-hcb]at B5' ⊢
 obtain⟨F,hF⟩:=kg (mo f (c2,(p2:Int)) f 0 0 0 L)
 rw[<-hF]at hKE hKO
 have i5:=o5.iZ
 have hown: ∀b,jL (.slice ta L.length tc) b->b≠h.size/\b≠cb:=λb q=>⟨by have:=o2.ge q;omega,by have:=o2.lt q;omega⟩
 obtain⟨I,hI⟩:=kg (α:=Nat->ku->H->Prop) λk σ h'=> ∃(u':U) (s:Int) (c l t:Nat),σ 1= Jx JT f/\σ 5= .pointer (some ⟨h.size,0,none⟩)/\σ 6= .slice ta L.length tc/\σ 7= .pointer (some ⟨eb,0,none⟩)/\σ 8= Jx JT s/\σ 9= .pointer (some ⟨cb,0,none⟩)/\σ 24= .slice ta L.length tc/\σ 25= Jx JT (L.length:Nat)/\σ 26= Jx JT k/\k<=L.length/\(0<=s/\s<=26)/\(c<=k/\l<=k/\t<=k)/\jD S0 u h u' h'/\jR u' h' h.size [Jx JT 0,Jx JT 0,Jx JT 0]/\jR u' h' eb [Jx JT c2,Jx JT 0,Jx JT (p2:Int)]/\jR u' h' cb [Jx JT c,Jx JT l,Jx JT t]/\lm h.size u' h' (.slice ta L.length tc) L/\mo f (c2,(p2:Int)) s c l t (L.drop k)=F
 refine jE I (λj=>L.length - j) 0 (by rw[hI];exact⟨u5,f,0,0,0,zJ,zJ,zJ,zJ,zJ,zJ,zJ,zJ,zJ,zO,hf,zO,st5,F5,E5,B5',o5.mono zO,by rw[eU,hF]⟩) ?_
 clear hh3 hh4 hh5 B3 B31 B41 B4 B5' E5 F5 F4 o5 o4 o2 st4 st5 i5 s5 s4 hh1 hz4 hF
 have err: ∀(u2:U) (h2:H) (e o:Int),jD S0 u h u2 h2->jR u2 h2 h.size [Jx JT 0,Jx JT 0,Jx JT 0]->F=(e,o)->e≠0->jR u2 (jW h2 h.size 0 [Jx JT e,Jx JT 0,Jx JT o]) h.size [Jx JT e,Jx JT 0,Jx JT o]/\K (.tuple #[.slice none 0 0,.agg #[Jx JT e,Jx JT 0,Jx JT o]]) (jW h2 h.size 0 [Jx JT e,Jx JT 0,Jx JT o]):=λu2 h2 e o s B he h0=>by
  refine⟨B.sets rfl,?_⟩
  have:=hKE (by rw[he];exact h0) _ _ (s.rZ (b:=h.size) (o:=0) (l:=[Jx JT e,Jx JT 0,Jx JT o]) (.inl (ak _)) (by rw[B.2.2.2.1];exact aj _) (by rw[B.2.1];exact ak _))
  rw[he]at this
  exact this
 intro k σ h' hy
 rw[hI]at hy
 obtain⟨u',s,c,l,t,e1,e5,e6,e7,e8,e9,e24,e25,e26,hk',hs,hcl,st,Fb,Eb,Cb,ow,hA⟩:=hy
 have hF1:=Fb.1
 have hE1:=Eb.1
 have hC1:=Cb.1
 by_cases hlt:k<L.length
 case neg=>
  rw[gL zO,mo]at hA
  by_cases hc0:c2=0
  ·have hb:(c2,(p2:Int))=((0:Int),(0:Int)):=by
    rcases hgood with q|q
    ·exact absurd hc0 q.1
    ·exact q.1
   have w:=Fb.sets (l:=[Jx JT 0,Jx JT 0,Jx JT 0]) rfl
   have s7:=jD.sets (S:=λb=>b=h.size) u' h' (b:=h.size) (o:=0) [Jx JT 0,Jx JT 0,Jx JT 0] rfl (by rw[Fb.2.2.2.1];exact aj _) (by rw[Fb.2.1];exact ak _)
   have hK':=hKO (by rw[<-hA,hb]) _ _ _ (st.trans s7 (λb hb q=>zO)) (ow.step s7 (λb q q'=>(hown b q).1 q'))
   simp only[oo]at hK'
   simp(disch:=first|omega|simp only[zz];try omega;done) only[↓reduceIte,go_sem,e5,e6,e7,e25,e26,ae (show¬(k:Int)<(L.length:Nat) by omega),Eb.at,Eb.2.1,hc0,Fb.2.1,Fb.2.2.1,w.at,w.2.1]
   exact hK'
  ·obtain⟨w,hK'⟩:=err u' h' c2 p2 st Fb hA.symm hc0
   simp(disch:=first|omega|simp only[zz];try omega;done) only[↓reduceIte,go_sem,e5,e7,e25,e26,ae (show¬(k:Int)<(L.length:Nat) by omega),Eb.at,Eb.2.1,ae hc0,Fb.2.1,Fb.2.2.1,w.at,w.2.1]
   exact hK'
 obtain⟨x,hx⟩:=qP hlt
 obtain⟨r,hr⟩: ∃r,L.drop k=x::r:=⟨L.drop (k+1),by rw[aN hlt];congr 1;rw[bf hlt]at hx;exact bR hx⟩
 have hr1:=(mD hr).2.2
 rw[hr]at hA
 have iw:=ow.iZ
 obtain⟨pb,po,rfl,hpb,hpu,hpz,hpr⟩:=iw.row k x hx
 rw[qh]at hpr
 simp only[kU,yP,qU,ax,aC]at hpr hpu hpz
 obtain⟨p0,p1,p2',p3,p4,p5⟩:=hpr
 obtain⟨h5',h6,u6,hh5,hh6,B5,B6,s6,hz6⟩:=rA u' h' [Jx JT 0,str [],Jx JT 0,Jx JT 0,Jx JT 0,Jx JT 0] (kU x) 46 rfl
 simp only[kU]at hh6 B6
 have F6:=Fb.sZ s6
 have E6:=Eb.sZ s6
 have C6:=Cb.sZ s6
 have ow6:=ow.sZ s6
 have st6:=st.tZ s6
 have B51:=B5.1
 have B61:=B6.1
 have hF6:=F6.1
 have hC6:=C6.1
 simp(disch:=first|omega|simp only[zz];try omega;done) only[↓reduceIte,go_sem,e1,e8,e24,e25,e26,ai (show(k:Int)<(L.length:Nat) by omega),p0,p1,p2',p3,p4,p5,<-hh5,<-hh6,B5.2.1,B5.2.2.1,B6.at,B6.2.1]
 refine jC (.inr (.inl ⟨rfl,f,s,x.1,rfl,hs,⟨jO,?_⟩⟩))
 obtain⟨n,hn⟩:=kg (jT f s (tK x))
 have hn':jT f s x.1=n:=hn.symm
 rw[hn']
 by_cases hn1:n= -1
 ·rw[pF (by rw[<-hn];exact hn1)]at hA
  by_cases hx0:x.1=0
  ·have hre:kH x=(21,x.2.2.2.2.1):=by unfold kH tK tO;rw[ah hx0]
   rw[hre]at hA
   obtain⟨w,hK'⟩:=err u6 h6 21 _ st6 F6 hA.symm zD
   simp(disch:=first|omega|simp only[zz];try omega;done) only[↓reduceIte,go_sem,e5,ai hn1,ai hx0,B6.at,B6.2.1,F6.2.1,F6.2.2.1,w.at,w.2.1]
   exact hK'
  ·have hre:kH x=(20,x.2.2.2.2.1):=by unfold kH tK tO;rw[af hx0]
   rw[hre]at hA
   obtain⟨w,hK'⟩:=err u6 h6 20 _ st6 F6 hA.symm zD
   simp(disch:=first|omega|simp only[zz];try omega;done) only[↓reduceIte,go_sem,e5,ai hn1,ae hx0,B6.at,B6.2.1,F6.2.1,F6.2.2.1,w.at,w.2.1]
   exact hK'
 have hnr:=TL (f:=f) (s:=s) (k:=tK x) (by rw[<-hn];exact hn1)
 rw[<-hn]at hnr
 simp(disch:=first|omega|simp only[zz];try omega;done) only[↓reduceIte,go_sem,e8,e9,ae hn1,C6.at,C6.2.1,B6.at,B6.2.1]
 refine jC (.inr (.inr (.inl ⟨rfl,u6,c,l,t,s,x.1,rfl,zO,zO,zO,λu7 h7 s7=>⟨jO,?_⟩⟩)))
 obtain⟨c',hc'⟩:=kg (zy s (tK x) c)
 obtain⟨l',hl'⟩:=kg (zA s (tK x) l)
 obtain⟨t',ht'⟩:=kg (zB s (tK x) t)
 have hle:=ak4 (s:=s) (k:=tK x) hcl
 rw[<-hc',<-hl',<-ht']at hle
 have q1:zy s x.1 c=c':=hc'.symm
 have q2:zA s x.1 l=l':=hl'.symm
 have q3:zB s x.1 t=t':=ht'.symm
 rw[q1,q2,q3]
 have F7:=F6.sZ s7
 have E7:=E6.sZ s7
 have C7:=C6.sZ s7
 have B7:=B6.sZ s7
 have ow7:=ow6.sZ s7
 have st7:=st6.tZ s7
 have hC7:=C7.1
 have C8:=C7.sets (l:=[Jx JT c',Jx JT l',Jx JT t']) rfl
 have s8:=jD.sets (S:=λb=>b=cb) u7 h7 (b:=cb) (o:=0) [Jx JT c',Jx JT l',Jx JT t'] rfl (by rw[C7.2.2.2.1];exact aj _) (by rw[C7.2.1];exact ak _)
 obtain⟨h8,hh8⟩:=kg (jW h7 cb 0 [Jx JT c',Jx JT l',Jx JT t'])
 rw[<-hh8]at C8 s8
 have F8:=F7.step s8 zO
 have E8:=E7.step s8 zO
 have B8:=B7.step s8 zO
 have ow8:=ow7.step s8 (λb q q'=>(hown b q).2 q')
 have st8:=st7.trans s8 (λb hb q=>zO)
 have hC8:=C8.1
 simp only[abn]
 simp(disch:=first|omega|simp only[zz];try omega;done) only[↓reduceIte,go_sem,e9,e1,C7.2.1,C7.2.2.1,<-hh8,C8.at,C8.2.1]
 refine jC (.inr (.inr (.inr ⟨rfl,u7,c',l',t',f,rfl,λu9 h9 s9=>⟨jO,?_⟩⟩)))
 have F9:=F8.sZ s9
 have E9:=E8.sZ s9
 have C9:=C8.sZ s9
 have B9:=B8.sZ s9
 have ow9:=ow8.sZ s9
 have st9:=st8.tZ s9
 have hF9:=F9.1
 have hB9:=B9.1
 obtain⟨e,he⟩:=kg (ww f c' l' t')
 rw[<-he]
 by_cases he0:e=0
 ·rw[qf hn.symm hn1 hc'.symm hl'.symm ht'.symm (by rw[<-he];exact he0)]at hA
  simp(disch:=omega) only[↓reduceIte,go_sem,ai he0,e26]
  refine⟨k+1,?_,zO⟩
  rw[hI]
  refine⟨u9,n,c',l',t',?_,?_,?_,?_,?_,?_,?_,?_,?_,hlt,hnr,hle,st9,F9,E9,C9,ow9,by rw[hr1];exact hA⟩<;>simp [jI,e1,e5,e6,e7,e9,e24,e25]
 ·rw[Du (by rw[<-hn];exact hn1) (by rw[<-hc',<-hl',<-ht',<-he]) he0]at hA
  obtain⟨w,hK'⟩:=err u9 h9 e _ st9 F9 hA.symm he0
  simp only[tO]at w hK'
  simp(disch:=first|omega|simp only[zz];try omega;done) only[↓reduceIte,go_sem,e5,ae he0,B9.at,B9.2.1,F9.2.1,F9.2.2.1,w.at,w.2.1]
  exact hK'
end Go.Proofs.Z
namespace Edict
theorem ahk{d k:Int}{n:Nat}(h: -(n:Int)<=d/\d<=n): -((n+1:Nat):Int)<=rM d k/\rM d k<=((n+1:Nat):Int):=by
 unfold rM
 split
 ·omega
 ·split<;>omega
theorem Fj{k d:Int}{now:List kR}{t:kR}{l:List kR}:ny k d now (t::l)=if tK t=k/\rM d (tK t)=0 then now::ny k (rM d (tK t)) [] l else ny k (rM d (tK t)) (now++[t]) l:=by rw[ny]
theorem El(k:Int): ∀(l:List kR) (d:Int) (now:List kR),(ny k d now l).length<=l.length+1
 |[],d,now=>by simp [ny]
 |t::l,d,now=>by
  rw[Fj]
  split
  ·have:=El k l (rM d (tK t)) []
   simp only[au];omega
  ·have:=El k l (rM d (tK t)) (now++[t])
   simp only[au];omega
theorem yA(k:Int): ∀(l:List kR) (d:Int) (now:List kR),∀s∈ny k d now l,s.length<=now.length+l.length
 |[],d,now=>λs hs=>by rw[ny]at hs;rw[aY.1 hs];simp
 |t::l,d,now=>λs hs=>by
  rw[Fj]at hs
  split at hs
  ·rcases aH.1 hs with rfl|hs
   ·simp only[au];omega
   ·have:=yA k l _ _ s hs
    simp only[aA,au]at this ⊢;omega
  ·have:=yA k l _ _ s hs
   simp only[ay,au,aA]at this ⊢;omega
end Edict
namespace Go.Ev
open Go Rep Edict
theorem abm{α:Type} [Rep α]{u:U}{h:H}{a:Option Addr}{n c:Nat}{l:List α}(hs:jS u h (.slice a n c) l){k:Nat}(hk:k<=l.length):jS u h (.slice a k c) (l.take k):=by
 obtain⟨a',n',c',h1,h2,h3,h4,h5,h6⟩:=hs
 simp only[Value.slice.injEq]at h1
 obtain⟨rfl,rfl,rfl⟩:=h1
 have hl:(l.take k).length=k:=by rw[aR];omega
 refine⟨a,k,c,rfl,hl.symm,zO,h4,h5,λhne=> ?_⟩
 have hne':l≠[]:=λe=>hne (by rw[e];simp)
 obtain⟨b,o,e,hb,hu,hz,hr⟩:=h6 hne'
 have:=bU (Rep.sz α) hk
 refine⟨b,o,e,hb,by rw[hl];omega,by rw[hl];omega,λi x hx=>hr i x ?_⟩
 rw[dE]at hx
 split at hx
 ·exact hx
 ·cases hx
end Go.Ev
namespace Go.Proofs.Z
open Go Go.Ev Edict
variable {vs:List Value} {h:H} {K:Value->H->Prop} {KP:List PanicEntry->H->Prop}
def Pb(vs:List Value)(h:H)(K:Value->H->Prop):Prop:= ∃(u:U) (v:Value) (L:List kR) (k:Int),vs=[v,Jx JT k]/\jS u h v L/\L.length<=65537/\ ∀u' h' w,jD S0 u h u' h'->lm h.size u' h' w (ny k 0 [] L)->K w h'
theorem Km(hC:Pb vs h K):kN Tryz.prog 21 vs h K KP:=by
 obtain⟨u,v,L,kk,rfl,hi,hLl,hK⟩:=hC
 obtain⟨ta,tc,rfl,m1,m2⟩:=hi.sl
 refine jJ 8598601459 [(none,(.t 4))] (G:=(λ_ _ _ _ _=>False)) (λ_ _ _ _ _ h=>h.elim) Tryz.func21 ?_
 simp only[↓reduceIte,go_sem]
 obtain⟨F,hF⟩:=kg (ny kk 0 [] L)
 rw[<-hF]at hK
 obtain⟨I,hI⟩:=kg (α:=Nat->ku->H->Prop) λi σ h'=> ∃(u':U) (wo wn:Value) (out:List (List kR)) (now:List kR) (d:Int),σ 1= Jx JT kk/\σ 5=wo/\σ 6=wn/\σ 7= Jx JT d/\σ 10= .slice ta L.length tc/\σ 11= Jx JT (L.length:Nat)/\σ 12= Jx JT i/\i<=L.length/\jD S0 u h u' h'/\lm h.size u' h' wo out/\lm h.size u' h' wn now/\(∀b,jL wo b-> ¬jL wn b)/\out.length<=i/\now.length<=i/\(-(i:Int)<=d/\d<=i)/\out++ny kk d now (L.drop i)=F
 refine jE I (λj=>L.length - j) 0 (by rw[hI];exact⟨u,_,_,[],[],0,zJ,zJ,zJ,zJ,zJ,zJ,zJ,zO,jD.refl _ _ _,.nil _ _ _,.nil _ _ _,λb ⟨_,_,_,q⟩=>(by cases q),zP,zP,zO,by rw[eU,hF];rfl⟩) ?_
 clear hF
 intro i σ h' hy
 rw[hI]at hy
 obtain⟨u',wo,wn,out,now,d,e1,e5,e6,e7,e10,e11,e12,hi',st,owo,own,hD,hol,hnl,hd,hA⟩:=hy
 obtain⟨oa,oc,rfl,o1,o2⟩:=owo.sl
 obtain⟨na,nc,rfl,n1,n2⟩:=own.sl
 have hz:=st.ge.sz
 by_cases hlt:i<L.length
 case neg=>
  rw[gL zO,ny]at hA
  have hrep:Rep.rep u' h' now [.slice na now.length nc]:=by rw[mf];exact⟨_,rfl,own.iZ⟩
  simp only[↓reduceIte,go_sem,e5,e6,e11,e12,ae (show¬(i:Int)<(L.length:Nat) by omega)]
  refine lD (by simp only[]) owo (x:=now) hrep rfl rfl hz zO λa5 n5 c5 u5 h5 o5 s5 hO5=>⟨jO,?_⟩
  rw[hA]at o5
  have st5:=st.trans s5 (λb hb q=>by have:=owo.ge q;omega)
  simp only[↓reduceIte,go_sem,jN]
  exact hK _ _ _ st5 o5
 obtain⟨x,hx⟩:=qP hlt
 have hr:L.drop i=x::L.drop (i+1):=by rw[aN hlt];congr 1;rw[bf hlt]at hx;exact bR hx
 rw[hr,Fj]at hA
 have iw:=hi.mono st.ge
 obtain⟨pb,po,rfl,hpb,hpu,hpz,hpr⟩:=iw.row i x hx
 rw[qh]at hpr
 simp only[kU,yP,qU,ax,aC]at hpr hpu hpz
 obtain⟨p0,p1,p2,p3,p4,p5⟩:=hpr
 obtain⟨h3,h4,u4,hh3,hh4,B3,B4,s4,hz4⟩:=rA u' h' [Jx JT 0,str [],Jx JT 0,Jx JT 0,Jx JT 0,Jx JT 0] (kU x) 46 rfl
 simp only[kU]at hh4 B4
 have owo4:=owo.sZ s4
 have own4:=own.sZ s4
 have st4:=st.tZ s4
 have B31:=B3.1
 have B41:=B4.1
 have hz4':=st4.ge.sz
 have hdn:=ahk (k:=tK x) hd
 obtain⟨d',hd'⟩:=kg (rM d (tK x))
 rw[<-hd']at hA hdn
 by_cases k5:x.1=5
 ·have hde:d'=d+1:=by rw[hd'];unfold rM tK;rw[ah k5]
  by_cases hcut:tK x=kk/\d'=0
  ·rw[ah hcut]at hA
   have hc1:x.1=kk:=hcut.1
   have hc2:d+1=0:=zO
   simp(disch:=first|omega|simp only[zz];try omega;done) only[↓reduceIte,go_sem,e1,e5,e6,e7,e10,e11,e12,ai (show(i:Int)<(L.length:Nat) by omega),p0,p1,p2,p3,p4,p5,<-hh3,<-hh4,B3.2.1,B3.2.2.1,B4.at,B4.2.1,ai k5,ae (show¬x.1=6 by omega),ai hc1,ai hc2]
   have hrep:Rep.rep u4 h4 now [.slice na now.length nc]:=by rw[mf];exact⟨_,rfl,own4.iZ⟩
   refine lD (by simp only[]) owo4 (x:=now) hrep rfl rfl hz4' zO λa5 n5 c5 u5 h5 o5 s5 hO5=>⟨jO,?_⟩
   have st5:=st4.trans s5 (λb hb q=>by have:=owo4.ge q;omega)
   obtain⟨_,_,hme,m51,m52⟩:=o5.sl
   simp only[Value.slice.injEq]at hme
   obtain⟨rfl,rfl,rfl⟩:=hme
   simp(disch:=omega) only[↓reduceIte,go_sem,e12]
   refine⟨i+1,?_,zO⟩
   rw[hI]
   refine⟨u5,_,_,out++[now],[],d',?_,?_,?_,?_,?_,?_,?_,hlt,st5,o5,.nil _ _ _,λb _ ⟨_,_,_,q⟩=>(by cases q),by simp;omega,zP,hdn,by rw[bE];exact hA⟩<;>simp [jI,e1,e10,e11,hde]
  ·rw[af hcut]at hA
   have go:x.1=kk-> ¬d+1=0:=λa b=>hcut ⟨a,zO⟩
   have fin: ∀(a5:Option Addr) (n5 c5:Nat) (u5:U) (h5:H),lm h.size u5 h5 (.slice a5 n5 c5) (now++[x])->jD (jL (.slice na now.length nc)) u4 h4 u5 h5->(∀b,jL (.slice a5 n5 c5) b->jL (.slice na now.length nc) b\/h4.size<=b)-> ∀σ9:ku,σ9 1= Jx JT kk->σ9 5= .slice oa out.length oc->σ9 6= .slice a5 n5 c5->σ9 7= Jx JT d'->σ9 10= .slice (some ⟨pb,po,none⟩) L.length tc->σ9 11= Jx JT (L.length:Nat)->σ9 12= Jx JT ((i:Int)+1)-> ∃y,I y σ9 h5/\L.length - y<L.length - i:=λa5 n5 c5 u5 h5 o5 s5 hO5 σ9 g1 g5 g6 g7 g10 g11 g12=>by
    refine⟨i+1,?_,zO⟩
    rw[hI]
    exact⟨u5,_,_,out,now++[x],d',g1,g5,g6,g7,g10,g11,by rw[g12];rfl,hlt,st4.trans s5 (λb hb q=>by have:=own4.ge q;omega),owo4.step s5 (λb q q'=>hD b q q'),o5,λb q q'=>(hO5 b q').elim (hD b q) (λz=>by have:=owo4.lt q;omega),zO,by simp;omega,hdn,hA⟩
   by_cases hc1:x.1=kk
   ·simp(disch:=first|omega|simp only[zz];try omega;done) only[↓reduceIte,go_sem,e1,e6,e7,e10,e11,e12,ai (show(i:Int)<(L.length:Nat) by omega),p0,p1,p2,p3,p4,p5,<-hh3,<-hh4,B3.2.1,B3.2.2.1,B4.at,B4.2.1,ai k5,ae (show¬x.1=6 by omega),ai hc1,ae (go hc1)]
    refine lD (by simp only[]) own4 (x:=x) (by rw[qh];rfl) rfl rfl hz4' zO λa5 n5 c5 u5 h5 o5 s5 hO5=>⟨jO,?_⟩
    simp(disch:=omega) only[↓reduceIte,go_sem,e12]
    refine fin a5 n5 c5 u5 h5 o5 s5 hO5 _ ?_ ?_ ?_ ?_ ?_ ?_ ?_<;>simp [jI,e1,e5,e10,e11,hde]
   ·simp(disch:=first|omega|simp only[zz];try omega;done) only[↓reduceIte,go_sem,e1,e6,e7,e10,e11,e12,ai (show(i:Int)<(L.length:Nat) by omega),p0,p1,p2,p3,p4,p5,<-hh3,<-hh4,B3.2.1,B3.2.2.1,B4.at,B4.2.1,ai k5,ae (show¬x.1=6 by omega),ae hc1]
    refine lD (by simp only[]) own4 (x:=x) (by rw[qh];rfl) rfl rfl hz4' zO λa5 n5 c5 u5 h5 o5 s5 hO5=>⟨jO,?_⟩
    simp(disch:=omega) only[↓reduceIte,go_sem,e12]
    refine fin a5 n5 c5 u5 h5 o5 s5 hO5 _ ?_ ?_ ?_ ?_ ?_ ?_ ?_<;>simp [jI,e1,e5,e10,e11,hde]
 by_cases k6:x.1=6
 ·have hde:d'=d - 1:=by rw[hd'];unfold rM tK;rw[af k5,ah k6]
  by_cases hcut:tK x=kk/\d'=0
  ·rw[ah hcut]at hA
   have hc1:x.1=kk:=hcut.1
   have hc2:d - 1=0:=zO
   simp(disch:=first|omega|simp only[zz];try omega;done) only[↓reduceIte,go_sem,e1,e5,e6,e7,e10,e11,e12,ai (show(i:Int)<(L.length:Nat) by omega),p0,p1,p2,p3,p4,p5,<-hh3,<-hh4,B3.2.1,B3.2.2.1,B4.at,B4.2.1,ae k5,ai k6,ai hc1,ai hc2]
   have hrep:Rep.rep u4 h4 now [.slice na now.length nc]:=by rw[mf];exact⟨_,rfl,own4.iZ⟩
   refine lD (by simp only[]) owo4 (x:=now) hrep rfl rfl hz4' zO λa5 n5 c5 u5 h5 o5 s5 hO5=>⟨jO,?_⟩
   have st5:=st4.trans s5 (λb hb q=>by have:=owo4.ge q;omega)
   obtain⟨_,_,hme,m51,m52⟩:=o5.sl
   simp only[Value.slice.injEq]at hme
   obtain⟨rfl,rfl,rfl⟩:=hme
   simp(disch:=omega) only[↓reduceIte,go_sem,e12]
   refine⟨i+1,?_,zO⟩
   rw[hI]
   refine⟨u5,_,_,out++[now],[],d',?_,?_,?_,?_,?_,?_,?_,hlt,st5,o5,.nil _ _ _,λb _ ⟨_,_,_,q⟩=>(by cases q),by simp;omega,zP,hdn,by rw[bE];exact hA⟩<;>simp [jI,e1,e10,e11,hde]
  ·rw[af hcut]at hA
   have go:x.1=kk-> ¬d - 1=0:=λa b=>hcut ⟨a,zO⟩
   have fin: ∀(a5:Option Addr) (n5 c5:Nat) (u5:U) (h5:H),lm h.size u5 h5 (.slice a5 n5 c5) (now++[x])->jD (jL (.slice na now.length nc)) u4 h4 u5 h5->(∀b,jL (.slice a5 n5 c5) b->jL (.slice na now.length nc) b\/h4.size<=b)-> ∀σ9:ku,σ9 1= Jx JT kk->σ9 5= .slice oa out.length oc->σ9 6= .slice a5 n5 c5->σ9 7= Jx JT d'->σ9 10= .slice (some ⟨pb,po,none⟩) L.length tc->σ9 11= Jx JT (L.length:Nat)->σ9 12= Jx JT ((i:Int)+1)-> ∃y,I y σ9 h5/\L.length - y<L.length - i:=λa5 n5 c5 u5 h5 o5 s5 hO5 σ9 g1 g5 g6 g7 g10 g11 g12=>by
    refine⟨i+1,?_,zO⟩
    rw[hI]
    exact⟨u5,_,_,out,now++[x],d',g1,g5,g6,g7,g10,g11,by rw[g12];rfl,hlt,st4.trans s5 (λb hb q=>by have:=own4.ge q;omega),owo4.step s5 (λb q q'=>hD b q q'),o5,λb q q'=>(hO5 b q').elim (hD b q) (λz=>by have:=owo4.lt q;omega),zO,by simp;omega,hdn,hA⟩
   by_cases hc1:x.1=kk
   ·simp(disch:=first|omega|simp only[zz];try omega;done) only[↓reduceIte,go_sem,e1,e6,e7,e10,e11,e12,ai (show(i:Int)<(L.length:Nat) by omega),p0,p1,p2,p3,p4,p5,<-hh3,<-hh4,B3.2.1,B3.2.2.1,B4.at,B4.2.1,ae k5,ai k6,ai hc1,ae (go hc1)]
    refine lD (by simp only[]) own4 (x:=x) (by rw[qh];rfl) rfl rfl hz4' zO λa5 n5 c5 u5 h5 o5 s5 hO5=>⟨jO,?_⟩
    simp(disch:=omega) only[↓reduceIte,go_sem,e12]
    refine fin a5 n5 c5 u5 h5 o5 s5 hO5 _ ?_ ?_ ?_ ?_ ?_ ?_ ?_<;>simp [jI,e1,e5,e10,e11,hde]
   ·simp(disch:=first|omega|simp only[zz];try omega;done) only[↓reduceIte,go_sem,e1,e6,e7,e10,e11,e12,ai (show(i:Int)<(L.length:Nat) by omega),p0,p1,p2,p3,p4,p5,<-hh3,<-hh4,B3.2.1,B3.2.2.1,B4.at,B4.2.1,ae k5,ai k6,ae hc1]
    refine lD (by simp only[]) own4 (x:=x) (by rw[qh];rfl) rfl rfl hz4' zO λa5 n5 c5 u5 h5 o5 s5 hO5=>⟨jO,?_⟩
    simp(disch:=omega) only[↓reduceIte,go_sem,e12]
    refine fin a5 n5 c5 u5 h5 o5 s5 hO5 _ ?_ ?_ ?_ ?_ ?_ ?_ ?_<;>simp [jI,e1,e5,e10,e11,hde]
 ·have hde:d'=d:=by rw[hd'];unfold rM tK;rw[af k5,af k6]
  by_cases hcut:tK x=kk/\d'=0
  ·rw[ah hcut]at hA
   have hc1:x.1=kk:=hcut.1
   have hc2:d=0:=zO
   simp(disch:=first|omega|simp only[zz];try omega;done) only[↓reduceIte,go_sem,e1,e5,e6,e7,e10,e11,e12,ai (show(i:Int)<(L.length:Nat) by omega),p0,p1,p2,p3,p4,p5,<-hh3,<-hh4,B3.2.1,B3.2.2.1,B4.at,B4.2.1,ae k5,ae k6,ai hc1,ai hc2]
   have hrep:Rep.rep u4 h4 now [.slice na now.length nc]:=by rw[mf];exact⟨_,rfl,own4.iZ⟩
   refine lD (by simp only[]) owo4 (x:=now) hrep rfl rfl hz4' zO λa5 n5 c5 u5 h5 o5 s5 hO5=>⟨jO,?_⟩
   have st5:=st4.trans s5 (λb hb q=>by have:=owo4.ge q;omega)
   obtain⟨_,_,hme,m51,m52⟩:=o5.sl
   simp only[Value.slice.injEq]at hme
   obtain⟨rfl,rfl,rfl⟩:=hme
   simp(disch:=omega) only[↓reduceIte,go_sem,e12]
   refine⟨i+1,?_,zO⟩
   rw[hI]
   refine⟨u5,_,_,out++[now],[],d',?_,?_,?_,?_,?_,?_,?_,hlt,st5,o5,.nil _ _ _,λb _ ⟨_,_,_,q⟩=>(by cases q),by simp;omega,zP,hdn,by rw[bE];exact hA⟩<;>simp [jI,e1,e7,e10,e11,hde]
  ·rw[af hcut]at hA
   have go:x.1=kk-> ¬d=0:=λa b=>hcut ⟨a,zO⟩
   have fin: ∀(a5:Option Addr) (n5 c5:Nat) (u5:U) (h5:H),lm h.size u5 h5 (.slice a5 n5 c5) (now++[x])->jD (jL (.slice na now.length nc)) u4 h4 u5 h5->(∀b,jL (.slice a5 n5 c5) b->jL (.slice na now.length nc) b\/h4.size<=b)-> ∀σ9:ku,σ9 1= Jx JT kk->σ9 5= .slice oa out.length oc->σ9 6= .slice a5 n5 c5->σ9 7= Jx JT d'->σ9 10= .slice (some ⟨pb,po,none⟩) L.length tc->σ9 11= Jx JT (L.length:Nat)->σ9 12= Jx JT ((i:Int)+1)-> ∃y,I y σ9 h5/\L.length - y<L.length - i:=λa5 n5 c5 u5 h5 o5 s5 hO5 σ9 g1 g5 g6 g7 g10 g11 g12=>by
    refine⟨i+1,?_,zO⟩
    rw[hI]
    exact⟨u5,_,_,out,now++[x],d',g1,g5,g6,g7,g10,g11,by rw[g12];rfl,hlt,st4.trans s5 (λb hb q=>by have:=own4.ge q;omega),owo4.step s5 (λb q q'=>hD b q q'),o5,λb q q'=>(hO5 b q').elim (hD b q) (λz=>by have:=owo4.lt q;omega),zO,by simp;omega,hdn,hA⟩
   by_cases hc1:x.1=kk
   ·simp(disch:=first|omega|simp only[zz];try omega;done) only[↓reduceIte,go_sem,e1,e6,e7,e10,e11,e12,ai (show(i:Int)<(L.length:Nat) by omega),p0,p1,p2,p3,p4,p5,<-hh3,<-hh4,B3.2.1,B3.2.2.1,B4.at,B4.2.1,ae k5,ae k6,ai hc1,ae (go hc1)]
    refine lD (by simp only[]) own4 (x:=x) (by rw[qh];rfl) rfl rfl hz4' zO λa5 n5 c5 u5 h5 o5 s5 hO5=>⟨jO,?_⟩
    simp(disch:=omega) only[↓reduceIte,go_sem,e12]
    refine fin a5 n5 c5 u5 h5 o5 s5 hO5 _ ?_ ?_ ?_ ?_ ?_ ?_ ?_<;>simp [jI,e1,e5,e7,e10,e11,hde]
   ·simp(disch:=first|omega|simp only[zz];try omega;done) only[↓reduceIte,go_sem,e1,e6,e7,e10,e11,e12,ai (show(i:Int)<(L.length:Nat) by omega),p0,p1,p2,p3,p4,p5,<-hh3,<-hh4,B3.2.1,B3.2.2.1,B4.at,B4.2.1,ae k5,ae k6,ae hc1]
    refine lD (by simp only[]) own4 (x:=x) (by rw[qh];rfl) rfl rfl hz4' zO λa5 n5 c5 u5 h5 o5 s5 hO5=>⟨jO,?_⟩
    simp(disch:=omega) only[↓reduceIte,go_sem,e12]
    refine fin a5 n5 c5 u5 h5 o5 s5 hO5 _ ?_ ?_ ?_ ?_ ?_ ?_ ?_<;>simp [jI,e1,e5,e7,e10,e11,hde]
def Pd(vs:List Value)(h:H)(K:Value->H->Prop):Prop:= ∃(u:U) (v:Value) (L:List kR),vs=[v]/\jS u h v L/\L.length<=65537/\ ∀u' h' w,jD S0 u h u' h'->jS u' h' w (rC L)->K w h'
def ahl:lq:=λf vs h K _=>f=21/\Pb vs h K
theorem Xk:lQ Tryz.prog ahl:=by
 rintro f vs h K KP ⟨rfl,hC⟩;exact Km hC
theorem AQ(hC:Pd vs h K):kN Tryz.prog 20 vs h K KP:=by
 obtain⟨u,v,L,rfl,hi,hLl,hK⟩:=hC
 refine jJ 13 [(none,(.t 2))] Xk Tryz.func20 ?_
 simp only[↓reduceIte,go_sem]
 refine jC ⟨rfl,u,v,L,8,rfl,hi,hLl,λu' h' w s o=>⟨jO,?_⟩⟩
 have hne:=NM 8 L 0 []
 have hlen:=El 8 L 0 []
 obtain⟨C,hC⟩:=kg (ny 8 0 [] L)
 rw[<-hC]at o hne hlen
 have hpos:=fQ.2 hne
 obtain⟨a,c,rfl,n1,n2⟩:=o.sl
 have hs:rC L=C.take (C.length - 1):=by unfold rC;rw[<-hC,List.dropLast_eq_take]
 have hk:=hK _ _ _ s (by rw[hs];exact abm o.iZ zO)
 simp(disch:=omega) only[↓reduceIte,go_sem,show((C.length:Nat):Int) - 1=((C.length - 1:Nat):Int) by omega]
 exact⟨zO,hk⟩
end Go.Proofs.Z
namespace Edict
theorem TK{src:List UInt8}:(∀e,mg (λb l=>mh b [] l) src= .error e->xD 15 src=e/\e.1≠0)/\ ∀a,mg (λb l=>mh b [] l) src= .ok a->xD 15 src=(0,0)/\a=(rC (ll src).1).map nz/\a.length<=4096/\ ∀s∈rC (ll src).1,s≠[]:=by
 unfold mg xD
 by_cases h:65536<src.length
 ·rw[ah h,ah h]
  exact⟨λe q=>by cases q;exact⟨rfl,(show(1:Int)≠0 by decide)⟩,λa q=>by cases q⟩
 ·rw[af h,af h]
  exact IW (Ae zO)
theorem Kl{l:List kR}{s:List kR}(hs:s∈rC l):s.length<=l.length:=by
 have:=yA 8 l 0 [] s (List.dropLast_subset _ hs)
 simpa using this
end Edict
namespace Go.Proofs.Z
open Go Go.Ev Edict
def aeC(vs:List Value)(h:H)(K:Value->H->Prop):Prop:= ∃(u:U) (src:List UInt8),vs=[str src]/\src.length<=9223372036854775807/\
 (∀e,mg (λb l=>mh b [] l) src= .error e-> ∀u' h',jD S0 u h u' h'->K (.tuple #[.slice none 0 0,oo e]) h')/\
 (∀l,mg (λb l=>mh b [] l) src= .ok l-> ∀u' h' w,jD S0 u h u' h'->lm h.size u' h' w l->K (.tuple #[w,oo (0,0)]) h')
def ak3:lq:=λf vs h K _=>(f=19/\Ko vs h K)\/(f=20/\Pd vs h K)\/(f=22/\Ha vs h K)
theorem aeD:lQ Tryz.prog ak3:=lY Kq (lY AQ (pX Fq))
theorem Xj{vs:List Value}{h:H}{K:Value->H->Prop}{KP:List PanicEntry->H->Prop}(hC:aeC vs h K):kN Tryz.prog 7 vs h K KP:=by
 obtain⟨u,src,rfl,hl,hKE,hKO⟩:=hC
 refine jJ 7930237 [(none,(.t 2)),((some (.c1 (.ldn 3) (.t 3))),(.o1 (.ldn 3) (.t 3)))] aeD Tryz.func7 ?_
 have s1:=jD.qZ S0 u h #[Jx JT 0,Jx JT 0,Jx JT 0] 27
 have B1:=jR.new (u:=u) (h:=h) [Jx JT 0,Jx JT 0,Jx JT 0] 27
 obtain⟨h1,hh1⟩:=kg (h.push (.cells #[Jx JT 0,Jx JT 0,Jx JT 0] 27))
 obtain⟨u1,hu1⟩:=kg (ub u h.size 0)
 have B1':jR u1 h1 h.size [Jx JT 0,Jx JT 0,Jx JT 0]:=by rw[hu1,hh1];exact B1
 rw[<-hh1,<-hu1]at s1
 clear B1
 have z1:h1.size=h.size+1:=by rw[hh1];simp
 obtain⟨hcE,hcO⟩:=TK (src:=src)
 simp only[↓reduceIte,go_sem,<-hh1]
 refine jC (.inl ⟨rfl,u1,src,15,rfl,hl,zO,λhne u3 h3 s3=>⟨jO,?_⟩,λheq u3 h3 w s3 ow=>⟨jO,?_⟩⟩)
 ·cases hp:mg (λb l=>mh b [] l) src with
  |ok a=>exact absurd (by rw[(hcO a hp).1]) hne
  |error f=>
   rw[(hcE f hp).1]at hne ⊢
   obtain⟨h5,h6,u6,hh5,hh6,B5,A5,s6,hz6⟩:=rA u3 h3 [Jx JT 0,Jx JT 0,Jx JT 0] [Jx JT f.1,Jx JT 0,Jx JT f.2] 27 rfl
   have A1':=(B1'.sZ s3).sZ s6
   have st:=(s1.tZ s3).tZ s6
   have hz3:=s3.ge.sz
   have B51:=B5.1
   have A51:=A5.1
   have A11:=A1'.1
   have w1:=A1'.sets (l:=[Jx JT f.1,Jx JT 0,Jx JT f.2]) rfl
   have s7:=jD.sets (S:=λb=>b=h.size) u6 h6 (b:=h.size) (o:=0) [Jx JT f.1,Jx JT 0,Jx JT f.2] rfl (by rw[A1'.2.2.2.1];exact aj _) (by rw[A1'.2.1];exact ak _)
   have hK':=hKE f hp _ _ (st.trans s7 (λb hb q=>zO))
   simp only[oo]at hK' ⊢
   simp(disch:=first|omega|simp only[zz];try omega;done) only[↓reduceIte,go_sem,<-hh5,<-hh6,B5.2.1,B5.2.2.1,A5.at,A5.2.1,ae hne,A1'.2.1,A1'.2.2.1,w1.at,w1.2.1]
   exact hK'
 ·cases hp:mg (λb l=>mh b [] l) src with
  |error f=>exact absurd (by rw[<-(hcE f hp).1];exact heq) (hcE f hp).2
  |ok a=>
  obtain⟨-,ha,hal,hne⟩:=hcO a hp
  have hK:=hKO a hp
  have hLl:=vG src
  obtain⟨L,hL⟩:=kg ((ll src).1)
  rw[<-hL]at ow ha hne hLl
  obtain⟨h5,h6,u6,hh5,hh6,B5,A5,s6,hz6⟩:=rA u3 h3 [Jx JT 0,Jx JT 0,Jx JT 0] [Jx JT 0,Jx JT 0,Jx JT 0] 27 rfl
  have A1':=(B1'.sZ s3).sZ s6
  have st6:=(s1.tZ s3).tZ s6
  have ow6:=ow.sZ s6
  have hz3:=s3.ge.sz
  have B51:=B5.1
  have A51:=A5.1
  obtain⟨wa0,wc0,rfl,m1,m2⟩:=ow.sl
  simp only[oo]
  simp(disch:=first|omega|simp only[zz];try omega;done) only[↓reduceIte,go_sem,<-hh5,<-hh6,B5.2.1,B5.2.2.1,A5.at,A5.2.1]
  refine jC (.inr (.inl ⟨rfl,u6,_,L,rfl,ow6.iZ,hLl,λu7 h7 w7 s7 i7=>⟨jO,?_⟩⟩))
  obtain⟨Z,hZ⟩:=kg (rC L)
  have hZe: ∀s∈Z,s.length<=65537:=λs hs=>by rw[hZ]at hs;have:=Kl hs;omega
  rw[<-hZ]at i7 ha hne
  have hZl:Z.length<=4096:=by rw[ha,aU]at hal;exact hal
  obtain⟨wa,wc,rfl,n1,n2⟩:=i7.sl
  have A7:=A1'.sZ s7
  have st7:=st6.tZ s7
  simp only[↓reduceIte,go_sem,jN]
  obtain⟨I,hI⟩:=kg (α:=Nat->ku->H->Prop) λk σ h'=> ∃(u':U) (wv:Value),σ 3= .pointer (some ⟨h.size,0,none⟩)/\σ 6=wv/\σ 19= .slice wa Z.length wc/\σ 20= Jx JT (Z.length:Nat)/\σ 21= Jx JT k/\k<=Z.length/\jD S0 u h u' h'/\jR u' h' h.size [Jx JT 0,Jx JT 0,Jx JT 0]/\lm h1.size u' h' wv ((Z.take k).map nz)/\jS u' h' (.slice wa Z.length wc) Z
  refine jE I (λj=>Z.length - j) 0 (by rw[hI];exact⟨u7,_,zJ,zJ,zJ,zJ,zJ,zO,st7,A7,.nil _ _ _,i7⟩) ?_
  clear hh5 hh6 B5 B51 A5 A51 A7 st7 i7 s7 A1' st6 ow6 s6 hh1
  intro k σ h' hy
  rw[hI]at hy
  obtain⟨u',wv,e3,e6,e19,e20,e21,hk',st,A,ow,iw⟩:=hy
  obtain⟨va,vc,rfl,n1,n2⟩:=ow.sl
  have hA1:=A.1
  have hz:=st.ge.sz
  by_cases hlt:k<Z.length
  case neg=>
   rw[cB zO,<-ha]at ow e6
   have w1:=A.sets (l:=[Jx JT 0,Jx JT 0,Jx JT 0]) rfl
   have s7:=jD.sets (S:=λb=>b=h.size) u' h' (b:=h.size) (o:=0) [Jx JT 0,Jx JT 0,Jx JT 0] rfl (by rw[A.2.2.2.1];exact aj _) (by rw[A.2.1];exact ak _)
   have hK':=hK _ _ _ (st.trans s7 (λb hb q=>zO)) ((ow.step s7 (λb q q'=>by have:=ow.ge q;omega)).mono zO)
   simp only[oo]at hK'
   simp(disch:=first|omega|simp only[zz];try omega;done) only[↓reduceIte,go_sem,e3,e6,e20,e21,ae (show¬(k:Int)<(Z.length:Nat) by omega),A.2.1,A.2.2.1,w1.at,w1.2.1]
   exact hK'
  obtain⟨x,hx⟩:=qP hlt
  have hxm:=aF hx
  obtain⟨t,r,rfl⟩: ∃t r,x=t::r:=by
   cases x with
   |nil=>exact absurd rfl (hne _ hxm)
   |cons t r=>exact⟨t,r,rfl⟩
  have hxl:=hZe _ hxm
  obtain⟨pb,po,rfl,hpb,hpu,hpz,hpr⟩:=iw.row k _ hx
  rw[mf]at hpr
  obtain⟨wx,hwx,ix⟩:=hpr
  have hszl:Rep.sz (List kR)=1:=rfl
  obtain⟨xa,xc,rfl,-,-⟩:=ix.sl
  simp only[hszl,qR,ax,aC]at hwx hpu hpz
  simp(disch:=omega) only[↓reduceIte,go_sem,e19,e20,e21,ai (show(k:Int)<(Z.length:Nat) by omega),hwx]
  refine jC (.inr (.inr ⟨rfl,u',_,t,r,rfl,ix,by simp at hxl;omega,λu4 h4 w4 s4 o4=>⟨jO,?_⟩⟩))
  obtain⟨w4a,w4c,rfl,k1,k2⟩:=o4.sl
  have A4:=A.sZ s4
  have ow4:=ow.sZ s4
  have iw4:=iw.mono s4.ge
  have st4:=st.tZ s4
  have hkl:((Z.take k).map nz).length=k:=by simp;omega
  have hsn:(Z.take (k+1)).map nz=(Z.take k).map nz++[nz (t::r)]:=by
   rw[aX,hx];simp
  simp only[↓reduceIte,go_sem,e6]
  refine lD (by simp only[]) ow4 (x:=nz (t::r)) (by rw[TG];exact⟨_,rfl,o4.iZ⟩) rfl rfl (by have:=s4.ge.sz;omega) zO λa5 n5 c5 u5 h5 o5 s5 hO5=>⟨jO,?_⟩
  rw[<-hsn]at o5
  have st5:=st4.trans s5 (λb hb q=>by have:=ow4.ge q;omega)
  simp(disch:=omega) only[↓reduceIte,go_sem,e21]
  refine⟨k+1,?_,zO⟩
  rw[hI]
  refine⟨u5,_,?_,?_,?_,?_,?_,hlt,st5,A4.step s5 (λq=>by have:=ow4.ge q;omega),o5,iw4.mono s5.ge⟩<;>simp [jI,e3,e19,e20]
end Go.Proofs.Z
namespace Go.Ev
open Go Rep Edict
theorem abg{α:Type} [Rep α]{u:U}{h:H}{b o c:Nat}{t:α}{l:List α}(hs:jS u h (.slice (some ⟨b,o,none⟩) (l.length+1) c) (t::l)):jS u h (.slice (some ⟨b,o+Rep.sz α,none⟩) l.length (c - 1)) l:=by
 obtain⟨a',n',c',h1,h2,h3,h4,h5,h6⟩:=hs
 simp only[Value.slice.injEq]at h1
 obtain⟨rfl,rfl,rfl⟩:=h1
 refine⟨_,_,_,rfl,rfl,zO,zO,λq=>(by cases q),λhne=> ?_⟩
 obtain⟨b',o',e,hb,hu,hz,hr⟩:=h6 zP
 cases e
 have e1:(t::l).length*Rep.sz α=l.length*Rep.sz α+Rep.sz α:=by rw[au,fC]
 refine⟨b,o+Rep.sz α,rfl,hb,zO,zO,λi x hx=> ?_⟩
 have:=hr (i+1) x (by simpa using hx)
 rwa [show o+(i+1)*Rep.sz α=o+Rep.sz α+i*Rep.sz α by rw[fC];omega]at this
theorem GZ{u:U}{h:H}{pb po n c:Nat}{L:List kR}(hs:jS u h (.slice (some ⟨pb,po,none⟩) n c) L)(i:Nat){t:kR}(ht:L[i]? =some t):
  pb<h.size/\po+i*6+6<=lS h pb/\hv h pb (po+i*6)= Jx JT t.1/\hv h pb (po+i*6+1)=str t.2.1/\hv h pb (po+i*6+2)= Jx JT t.2.2.1/\hv h pb (po+i*6+3)= Jx JT t.2.2.2.1/\hv h pb (po+i*6+4)= Jx JT t.2.2.2.2.1/\hv h pb (po+i*6+5)= Jx JT t.2.2.2.2.2:=by
 obtain⟨pb',po',he,hpb,hpu,hpz,hpr⟩:=hs.row i t ht
 cases he
 rw[qh]at hpr
 simp only[kU,yP,qU,ax,aC]at hpr hpu hpz
 obtain⟨p0,p1,p2,p3,p4,p5⟩:=hpr
 exact⟨hpb,hpz,p0,p1,p2,p3,p4,p5⟩
end Go.Ev
namespace Edict
variable {l:List kR} {o t y:kR}
theorem aey(h:tK t=10):xX (t::l)=(2,nz l,0,kD,kD,tO t):=by
 show(if tK t=10 then _ else _)=_
 rw[ah h]
theorem abh(h:tK t≠10)(ho:tK o=11):xX [t,o,y]=(3,nM,tP o,kM t,kM y,tO t):=by
 show(if tK t=10 then _ else if tK o=11 then _ else _)=_
 rw[af h,ah ho]
theorem abj(h:tK t≠10)(ho:tK o≠11):xX [t,o,y]=(1,nz [t,o,y],0,kD,kD,tO t):=by
 show(if tK t=10 then _ else if tK o=11 then _ else _)=_
 rw[af h,af ho]
theorem abk(h:tK t≠10)(hl:l.length≠2):xX (t::l)=(1,nz (t::l),0,kD,kD,tO t):=by
 show(if tK t=10 then _ else _)=_
 rw[af h]
 match l,hl with
 |[],_=>rfl
 |[_],_=>rfl
 |[_,_],q=>exact absurd rfl q
 |_::_::_::_,_=>rfl
end Edict
namespace Go.Proofs.Z
open Go Go.Ev Edict
variable {vs:List Value} {h:H} {K:Value->H->Prop} {KP:List PanicEntry->H->Prop}
def aez(vs:List Value)(h:H)(K:Value->H->Prop):Prop:= ∃(u:U) (v:Value) (p:List kR),vs=[v]/\jS u h v p/\p.length<=65537/\QE p/\ ∀u' h' w,jD S0 u h u' h'->jS u' h' w (xX p).2.1.2.1->K (.agg (qj (xX p) w).toArray) h'
def ak1:lq:=λf vs h K _=>(f=22/\Ha vs h K)\/(f=60/\Pe vs h K)
theorem aeA:lQ Tryz.prog ak1:=lY Fq (pX MK)
theorem OZ(hC:aez vs h K):kN Tryz.prog 61 vs h K KP:=by
 obtain⟨u,v,p,rfl,hi,hpl,⟨t,l,rfl,hwf⟩,hK⟩:=hC
 obtain⟨a,c,rfl,q1,q2⟩:=hi.sl
 have hlen:(t::l).length=l.length+1:=rfl
 simp only[hlen]at hi q1 hpl ⊢
 refine jJ 134221837 [((some (.c1 (.ldn 14) (.t 2))),(.o1 (.ldn 14) (.t 2)))] aeA Tryz.func61 ?_ (by kernel_rfl) (by apply c0 rfl;repeat' first|apply cS|apply cK|apply cL|apply cX|(apply cC zD)|(conv=>lhs;cbv;try simp only[Kw]))
 have s1:=jD.qZ S0 u h #[Jx JT 0,str [],.slice none 0 0,Jx JT 0,Jx JT 0,Jx JT 0,Jx JT 0,str [],Jx JT 0,Jx JT 0,Jx JT 0,str [],Jx JT 0,Jx JT 0] 141
 have B1:=jR.new (u:=u) (h:=h) [Jx JT 0,str [],.slice none 0 0,Jx JT 0,Jx JT 0,Jx JT 0,Jx JT 0,str [],Jx JT 0,Jx JT 0,Jx JT 0,str [],Jx JT 0,Jx JT 0] 141
 obtain⟨h1,hh1⟩:=kg (h.push (.cells #[Jx JT 0,str [],.slice none 0 0,Jx JT 0,Jx JT 0,Jx JT 0,Jx JT 0,str [],Jx JT 0,Jx JT 0,Jx JT 0,str [],Jx JT 0,Jx JT 0] 141))
 obtain⟨u1,hu1⟩:=kg (ub u h.size 0)
 have B1':jR u1 h1 h.size [Jx JT 0,str [],.slice none 0 0,Jx JT 0,Jx JT 0,Jx JT 0,Jx JT 0,str [],Jx JT 0,Jx JT 0,Jx JT 0,str [],Jx JT 0,Jx JT 0]:=by rw[hu1,hh1];exact B1
 rw[<-hh1,<-hu1]at s1
 clear B1
 have v1:=hi.mono s1.ge
 have B11:=B1'.1
 obtain⟨pb,po,rfl,-,-,-,-⟩:=v1.row 0 t rfl
 obtain⟨hpb,hpz,p0,p1,p2,p3,p4,p5⟩:=GZ v1 0 rfl
 simp only[fB,dO]at hpz p0 p1 p2 p3 p4 p5
 have fin: ∀(k:Int) (x:List kR) (u6:U) (h6:H) (w:Value),xX (t::l)=(k,nz x,0,kD,kD,tO t)->jD S0 u1 h1 u6 h6->jS u6 h6 w (nz x).2.1->
   jR u6 (jW h6 h.size 0 (qj (k,nz x,0,kD,kD,tO t) w)) h.size (qj (k,nz x,0,kD,kD,tO t) w)/\K (.agg (qj (k,nz x,0,kD,kD,tO t) w).toArray) (jW h6 h.size 0 (qj (k,nz x,0,kD,kD,tO t) w)):=by
  intro k x u6 h6 w he s6 iw
  have B16:=B1'.sZ s6
  have s7:=(s1.tZ s6).rZ (b:=h.size) (o:=0) (l:=qj (k,nz x,0,kD,kD,tO t) w) (.inl (ak _)) (by rw[B16.2.2.2.1];exact aj _) (by rw[B16.2.1];exact ak _)
  have s67:=jD.sets (S:=λb=>b=h.size) u6 h6 (b:=h.size) (o:=0) (qj (k,nz x,0,kD,kD,tO t) w) rfl (by rw[B16.2.2.2.1];exact aj _) (by rw[B16.2.1];exact ak _)
  refine⟨B16.sets rfl,?_⟩
  rw[he]at hK
  exact hK _ _ _ s7 (iw.mono s67.ge)
 by_cases h10:t.1=10
 ·obtain⟨t2,l2,rfl⟩: ∃t2 l2,l=t2::l2:=by
   cases l with
   |nil=>exact absurd rfl (hwf h10)
   |cons t2 l2=>exact⟨t2,l2,rfl⟩
  have hcut: ∀hh:H,v2 (.cutLo 6) (.slice (some ⟨pb,po,none⟩) ((t2::l2).length+1) c) (Jx JT 1) hh= .slice (some ⟨pb,po+6,none⟩) (t2::l2).length (c - 1):=λhh=>by
   have:c≠1:=by simp only[au]at q1;omega
   simp [v2,ti,Addr.add,this]
  obtain⟨n,hn⟩:=kg ((t2::l2).length)
  have hn2:n=l2.length+1:=hn
  have it:=abg v1
  rw[yP]at it
  rw[<-hn]at hcut it q1 hpl ⊢
  simp(disch:=omega) only[↓reduceIte,go_sem,<-hh1,ai (show(0:Int)<((n+1:Nat):Int) by omega),p0,p4,ai h10,hcut,ai (show(1:Int)<=((n+1:Nat):Int) by omega)]
  refine jC (.inl ⟨rfl,u1,_,t2,l2,rfl,it,zO,λu6 h6 w6 s6 o6=>⟨jO,?_⟩⟩)
  have B16:=B1'.sZ s6
  have B161:=B16.1
  obtain⟨w,hK'⟩:=fin 2 (t2::l2) u6 h6 w6 (aey h10) s6 o6.iZ
  obtain⟨wa,wc,rfl,m1,m2⟩:=o6.sl
  simp only[qj,kD,nz,tO,tX]at hK' w
  simp only[tO,tX]
  simp(disch:=first|omega|simp only[zz];try omega;done) only[↓reduceIte,go_sem,B16.2.1,B16.2.2.1,w.at,w.2.1]
  exact hK'
 by_cases hl2:l.length=2
 ·obtain⟨o,y,rfl⟩: ∃o y,l=[o,y]:=by
   match l,hl2 with
   |[o,y],_=>exact⟨o,y,rfl⟩
  obtain⟨-,hpz1,r0,r1,r2,r3,r4,r5⟩:=GZ v1 1 (t:=o) rfl
  simp only[jb,ig,Nat.reduceAdd]at hpz1 r0 r1 r2 r3 r4 r5
  by_cases h11:o.1=11
  ·have st0: ∀{u':U} {h':H},jD S0 u1 h1 u' h'->pb<h'.size/\po+12+6<=lS h' pb/\hv h' pb (po+9)= Jx JT o.2.2.2.1/\hv h' pb (po+12)= Jx JT y.1/\hv h' pb (po+13)=str y.2.1/\hv h' pb (po+14)= Jx JT y.2.2.1/\hv h' pb (po+15)= Jx JT y.2.2.2.1/\hv h' pb (po+16)= Jx JT y.2.2.2.2.1/\hv h' pb (po+17)= Jx JT y.2.2.2.2.2:=by
    intro u' h' s
    obtain⟨a0,-,-,-,-,a4,-,-⟩:=GZ (v1.mono s.ge) 1 (t:=o) rfl
    obtain⟨-,b1,b2,b3,b4,b5,b6,b7⟩:=GZ (v1.mono s.ge) 2 (t:=y) rfl
    exact⟨a0,b1,a4,b2,b3,b4,b5,b6,b7⟩
   obtain⟨-,z0,y3,y0,y1,y2,y33,y4,y5⟩:=st0 (jD.refl _ _ _)
   simp(disch:=omega) only[↓reduceIte,go_sem,<-hh1,p0,p1,p2,p3,p4,p5,r0,r3,y0,y1,y2,y33,y4,y5,ae h10,ai h11]
   refine jC (.inr ⟨rfl,u1,t,rfl,λu5 h5 s5=> ?_⟩)
   obtain⟨a0,a1,a2,a3,a4,a5,a6,a7,a8⟩:=st0 s5
   refine⟨by simp(disch:=omega) only[↓reduceIte,go_sem,a1,a2,a3,a4,a5,a6,a7,a8,y3,y0,y1,y2,y33,y4,y5],?_⟩
   simp only[↓reduceIte,go_sem,jN]
   refine jC (.inr ⟨rfl,u5,y,rfl,λu6 h6 s6=> ?_⟩)
   obtain⟨c0,c1,c2,c3,c4,c5,c6,c7,c8⟩:=st0 (s5.tZ s6)
   refine⟨by simp(disch:=omega) only[↓reduceIte,go_sem,a2,c2],?_⟩
   have B16:=(B1'.sZ s5).sZ s6
   have B161:=B16.1
   have w:=B16.sets (l:=qj (3,nM,tP o,kM t,kM y,tO t) (.slice none 0 0)) rfl
   have s7:=((s1.tZ s5).tZ s6).rZ (b:=h.size) (o:=0) (l:=qj (3,nM,tP o,kM t,kM y,tO t) (.slice none 0 0)) (.inl (ak _)) (by rw[B16.2.2.2.1];exact aj _) (by rw[B16.2.1];exact ak _)
   rw[abh h10 h11]at hK
   have hK':=hK _ _ (.slice none 0 0) s7 (.nil _ _)
   simp only[qj,nM,tO,tP]at hK' w
   simp only[tQ]
   simp(disch:=first|omega|simp only[zz];try omega;done) only[↓reduceIte,go_sem,B16.2.1,B16.2.2.1,w.at,w.2.1]
   exact hK'
  ·simp(disch:=omega) only[↓reduceIte,go_sem,<-hh1,p0,p4,r0,ae h10,ae h11]
   refine jC (.inl ⟨rfl,u1,_,t,[o,y],rfl,v1,zP,λu6 h6 w6 s6 o6=>⟨jO,?_⟩⟩)
   have B16:=B1'.sZ s6
   have B161:=B16.1
   obtain⟨w,hK'⟩:=fin 1 [t,o,y] u6 h6 w6 (abj h10 h11) s6 o6.iZ
   obtain⟨wa,wc,rfl,m1,m2⟩:=o6.sl
   simp only[qj,kD,nz,tO,tX]at hK' w
   simp only[tO,tX]
   simp(disch:=first|omega|simp only[zz];try omega;done) only[↓reduceIte,go_sem,B16.2.1,B16.2.2.1,w.at,w.2.1]
   exact hK'
 ·obtain⟨n,hn⟩:=kg l.length
  have v1':=v1
  rw[<-hn]at v1 hl2 hpl q1 ⊢
  simp(disch:=omega) only[↓reduceIte,go_sem,<-hh1,ai (show(0:Int)<((n+1:Nat):Int) by omega),p0,p4,ae h10,ae (show¬((n+1:Nat):Int)=3 by omega)]
  refine jC (.inl ⟨rfl,u1,_,t,l,rfl,v1,zO,λu6 h6 w6 s6 o6=>⟨jO,?_⟩⟩)
  have B16:=B1'.sZ s6
  have B161:=B16.1
  obtain⟨w,hK'⟩:=fin 1 (t::l) u6 h6 w6 (abk h10 (by rw[<-hn];exact hl2)) s6 o6.iZ
  obtain⟨wa,wc,rfl,m1,m2⟩:=o6.sl
  simp only[qj,kD,nz,tO,tX]at hK' w
  simp only[tO,tX]
  simp(disch:=first|omega|simp only[zz];try omega;done) only[↓reduceIte,go_sem,B16.2.1,B16.2.2.1,w.at,w.2.1]
  exact hK'
def YW(vs:List Value)(h:H)(K:Value->H->Prop):Prop:= ∃(u:U) (v:Value) (L:List kR),vs=[v]/\jS u h v L/\L.length<=65537/\(∀p∈ny 7 0 [] L,QE p)/\ ∀u' h' w,jD S0 u h u' h'->lm h.size u' h' w (uf L)->K w h'
def ak2:lq:=λf vs h K _=>(f=21/\Pb vs h K)\/(f=61/\aez vs h K)
theorem aeB:lQ Tryz.prog ak2:=lY Km (pX OZ)
theorem abl(hC:YW vs h K):kN Tryz.prog 23 vs h K KP:=by
 obtain⟨u,v,L,rfl,hi,hLl,hwf,hK⟩:=hC
 refine jJ 1965 [(none,(.t 2))] aeB Tryz.func23 ?_
 simp only[↓reduceIte,go_sem]
 refine jC (.inl ⟨rfl,u,v,L,7,rfl,hi,hLl,λu7 h7 w7 s7 o7=>⟨jO,?_⟩⟩)
 obtain⟨Z,hZ⟩:=kg (ny 7 0 [] L)
 have hZe: ∀s∈Z,s.length<=65537:=λs hs=>by rw[hZ]at hs;have:=yA 7 L 0 [] s hs;simp only[aA]at this;omega
 have hZl:Z.length<=65538:=by have:=El 7 L 0 [];rw[<-hZ]at this;omega
 have hb:uf L=Z.map xX:=by unfold uf;rw[hZ]
 rw[hb]at hK
 rw[<-hZ]at o7 hwf
 have i7:=o7.iZ
 obtain⟨wa,wc,rfl,n1,n2⟩:=o7.sl
 clear o7
 simp only[↓reduceIte,go_sem,jN]
 obtain⟨I,hI⟩:=kg (α:=Nat->ku->H->Prop) λk σ h'=> ∃(u':U) (wv:Value),σ 3=wv/\σ 7= .slice wa Z.length wc/\σ 8= Jx JT (Z.length:Nat)/\σ 9= Jx JT k/\k<=Z.length/\jD S0 u h u' h'/\lm h.size u' h' wv ((Z.take k).map xX)/\jS u' h' (.slice wa Z.length wc) Z
 refine jE I (λj=>Z.length - j) 0 (by rw[hI];exact⟨u7,_,zJ,zJ,zJ,zJ,zO,s7,.nil _ _ _,i7⟩) ?_
 clear i7 s7
 intro k σ h' hy
 rw[hI]at hy
 obtain⟨u',wv,e3,e7,e8,e9,hk',st,ow,iw⟩:=hy
 obtain⟨va,vc,rfl,n1,n2⟩:=ow.sl
 have hz:=st.ge.sz
 by_cases hlt:k<Z.length
 case neg=>
  rw[cB zO]at ow e3
  have hK':=hK _ _ _ st ow
  simp only[↓reduceIte,go_sem,e3,e8,e9,ae (show¬(k:Int)<(Z.length:Nat) by omega)]
  exact hK'
 obtain⟨x,hx⟩:=qP hlt
 have hxm:=aF hx
 have hxl:=hZe _ hxm
 obtain⟨pb,po,rfl,hpb,hpu,hpz,hpr⟩:=iw.row k _ hx
 rw[mf]at hpr
 obtain⟨wx,hwx,ix⟩:=hpr
 have hszl:Rep.sz (List kR)=1:=rfl
 obtain⟨xa,xc,rfl,-,-⟩:=ix.sl
 simp only[hszl,qR,ax,aC]at hwx hpu hpz
 simp(disch:=omega) only[↓reduceIte,go_sem,e7,e8,e9,ai (show(k:Int)<(Z.length:Nat) by omega),hwx]
 refine jC (.inr ⟨rfl,u',_,x,rfl,ix,hxl,hwf _ hxm,λu4 h4 w4 s4 i4=>⟨jO,?_⟩⟩)
 obtain⟨w4a,w4c,rfl,k1,k2⟩:=i4.sl
 have ow4:=ow.sZ s4
 have iw4:=iw.mono s4.ge
 have st4:=st.tZ s4
 have hkl:((Z.take k).map xX).length=k:=by simp;omega
 have hsn:(Z.take (k+1)).map xX=(Z.take k).map xX++[xX x]:=by
  rw[aX,hx];simp
 obtain⟨y,hy⟩:=kg (xX x)
 rw[<-hy]at i4 hsn ⊢
 have hrep:Rep.rep u4 h4 y (qj y (.slice w4a y.2.1.2.1.length w4c)):=by rw[YT];exact⟨_,rfl,i4⟩
 simp only[qj]at hrep ⊢
 simp only[↓reduceIte,go_sem,e3]
 refine lD (by simp only[]) ow4 (x:=y) hrep rfl rfl (by have:=s4.ge.sz;omega) zO λa5 n5 c5 u5 h5 o5 s5 hO5=>⟨jO,?_⟩
 rw[<-hsn]at o5
 have st5:=st4.trans s5 (λb hb q=>by have:=ow4.ge q;omega)
 simp(disch:=omega) only[↓reduceIte,go_sem,e9]
 refine⟨k+1,?_,zO⟩
 rw[hI]
 refine⟨u5,_,?_,?_,?_,?_,hlt,st5,o5,iw4.mono s5.ge⟩<;>simp [jI,e7,e8]
end Go.Proofs.Z
namespace Edict
theorem Xi{src:List UInt8}:(∀e,mg (λb l=>nQ b [] l) src= .error e->xD 0 src=e/\e.1≠0)/\ ∀a,mg (λb l=>nQ b [] l) src= .ok a->xD 0 src=(0,0)/\a=(rC (ll src).1).map oM/\a.length<=512/\ ∀s∈rC (ll src).1,Dx s:=by
 unfold mg xD
 by_cases h:65536<src.length
 ·rw[ah h,ah h]
  exact⟨λe q=>by cases q;exact⟨rfl,(show(1:Int)≠0 by decide)⟩,λa q=>by cases q⟩
 ·rw[af h,af h]
  exact LU (Ae zO)
theorem abe{s a:List kR}(h:ny 9 0 [] s=[a]):oM s=(nz a,[]):=by unfold oM;rw[h]
theorem abf{s a b:List kR}(h:ny 9 0 [] s=[a,b]):oM s=(nz a,uf b):=by unfold oM;rw[h]
end Edict
namespace Go.Proofs.Z
open Go Go.Ev Edict
def ahj(vs:List Value)(h:H)(K:Value->H->Prop):Prop:= ∃(u:U) (src:List UInt8),vs=[str src]/\src.length<=9223372036854775807/\
 (∀e,mg (λb l=>nQ b [] l) src= .error e-> ∀u' h',jD S0 u h u' h'->K (.tuple #[.agg #[.slice none 0 0],oo e]) h')/\
 (∀l,mg (λb l=>nQ b [] l) src= .ok l-> ∀u' h' w,jD S0 u h u' h'->lm h.size u' h' w l->K (.tuple #[.agg #[w],oo (0,0)]) h')
def ak0:lq:=λf vs h K _=>(f=19/\Ko vs h K)\/(f=20/\Pd vs h K)\/(f=21/\Pb vs h K)\/(f=22/\Ha vs h K)\/(f=23/\YW vs h K)
theorem aex:lQ Tryz.prog ak0:=lY Kq (lY AQ (lY Km (lY Fq (pX abl))))
theorem OY{vs:List Value}{h:H}{K:Value->H->Prop}{KP:List PanicEntry->H->Prop}(hC:ahj vs h K):kN Tryz.prog 6 vs h K KP:=by
 obtain⟨u,src,rfl,hl,hKE,hKO⟩:=hC
 refine jJ 137502132093 [((some (.c1 (.ldn 1) (.t 2))),(.o1 (.ldn 1) (.t 2))),((some (.c1 (.ldn 3) (.t 3))),(.o1 (.ldn 3) (.t 3)))] aex Tryz.func6 ?_
 have s1:=jD.qZ S0 u h #[.slice none 0 0] 24
 have B1:=jR.new (u:=u) (h:=h) [.slice none 0 0] 24
 obtain⟨h1,hh1⟩:=kg (h.push (.cells #[.slice none 0 0] 24))
 obtain⟨u1,hu1⟩:=kg (ub u h.size 0)
 have B1':jR u1 h1 h.size [.slice none 0 0]:=by rw[hu1,hh1];exact B1
 rw[<-hh1,<-hu1]at s1
 clear B1
 have s2:=jD.qZ S0 u1 h1 #[Jx JT 0,Jx JT 0,Jx JT 0] 27
 have B2:=jR.new (u:=u1) (h:=h1) [Jx JT 0,Jx JT 0,Jx JT 0] 27
 obtain⟨h2,hh2⟩:=kg (h1.push (.cells #[Jx JT 0,Jx JT 0,Jx JT 0] 27))
 obtain⟨u2,hu2⟩:=kg (ub u1 h1.size 0)
 have B2':jR u2 h2 h1.size [Jx JT 0,Jx JT 0,Jx JT 0]:=by rw[hu2,hh2];exact B2
 rw[<-hh2,<-hu2]at s2
 clear B2
 have z1:h1.size=h.size+1:=by rw[hh1];simp
 have z2:h2.size=h1.size+1:=by rw[hh2];simp
 have B12:=B1'.sZ s2
 have st2:=s1.tZ s2
 obtain⟨hcE,hcO⟩:=Xi (src:=src)
 simp only[↓reduceIte,go_sem,<-hh1,<-hh2]
 refine jC (.inl ⟨rfl,u2,src,0,rfl,hl,zO,λhne u3 h3 s3=>⟨jO,?_⟩,λheq u3 h3 w s3 ow=>⟨jO,?_⟩⟩)
 ·cases hp:mg (λb l=>nQ b [] l) src with
  |ok a=>exact absurd (by rw[(hcO a hp).1]) hne
  |error f=>
   rw[(hcE f hp).1]at hne ⊢
   obtain⟨h5,h6,u6,hh5,hh6,B5,A5,s6,hz6⟩:=rA u3 h3 [Jx JT 0,Jx JT 0,Jx JT 0] [Jx JT f.1,Jx JT 0,Jx JT f.2] 27 rfl
   have A1':=(B12.sZ s3).sZ s6
   have A2':=(B2'.sZ s3).sZ s6
   have st:=(st2.tZ s3).tZ s6
   have hz3:=s3.ge.sz
   have B51:=B5.1
   have A51:=A5.1
   have A11:=A1'.1
   have A21:=A2'.1
   have A17:=A1'.sets (l:=[.slice none 0 0]) rfl
   have s7:=jD.sets (S:=λb=>b=h.size) u6 h6 (b:=h.size) (o:=0) [.slice none 0 0] rfl (by rw[A1'.2.2.2.1];exact aj _) (by rw[A1'.2.1];exact ak _)
   obtain⟨h7,hh7⟩:=kg (jW h6 h.size 0 [.slice none 0 0])
   rw[<-hh7]at A17 s7
   have A27:=A2'.step s7 zO
   have A57:=A5.step s7 zO
   have A28:=A27.sets (l:=[Jx JT f.1,Jx JT 0,Jx JT f.2]) rfl
   have s8:=jD.sets (S:=λb=>b=h1.size) u6 h7 (b:=h1.size) (o:=0) [Jx JT f.1,Jx JT 0,Jx JT f.2] rfl (by rw[A27.2.2.2.1];exact aj _) (by rw[A27.2.1];exact ak _)
   obtain⟨h8,hh8⟩:=kg (jW h7 h1.size 0 [Jx JT f.1,Jx JT 0,Jx JT f.2])
   rw[<-hh8]at A28 s8
   have A18:=A17.step s8 zO
   have st8:=(st.trans s7 (λb hb q=>zO)).trans s8 (λb hb q=>zO)
   have A181:=A18.1
   have A281:=A28.1
   have A571:=A57.1
   have A271:=A27.1
   have hK':=hKE f hp _ _ st8
   simp only[oo]at hK' ⊢
   simp(disch:=first|omega|simp only[zz];try omega;done) only[↓reduceIte,go_sem,<-hh5,<-hh6,B5.2.1,B5.2.2.1,A5.at,A5.2.1,ae hne,A1'.2.1,A1'.2.2.1,<-hh7,A57.at,A57.2.1,A27.2.1,A27.2.2.1,<-hh8,A18.at,A18.2.1,A28.at,A28.2.1]
   exact hK'
 ·cases hp:mg (λb l=>nQ b [] l) src with
  |error f=>exact absurd (by rw[<-(hcE f hp).1];exact heq) (hcE f hp).2
  |ok a=>
  obtain⟨-,ha,hal,hwf⟩:=hcO a hp
  have hK:=hKO a hp
  have hLl:=vG src
  obtain⟨L,hL⟩:=kg ((ll src).1)
  rw[<-hL]at ow ha hwf hLl
  obtain⟨h5,h6,u6,hh5,hh6,B5,A5,s6,hz6⟩:=rA u3 h3 [Jx JT 0,Jx JT 0,Jx JT 0] [Jx JT 0,Jx JT 0,Jx JT 0] 27 rfl
  have A16:=(B12.sZ s3).sZ s6
  have A26:=(B2'.sZ s3).sZ s6
  have st6:=(st2.tZ s3).tZ s6
  have ow6:=ow.sZ s6
  have hz3:=s3.ge.sz
  have B51:=B5.1
  have A51:=A5.1
  have sp:=jD.qZ S0 u6 h6 #[.slice none 0 0] 24
  have Bp:=jR.new (u:=u6) (h:=h6) [.slice none 0 0] 24
  obtain⟨hp',hhp⟩:=kg (h6.push (.cells #[.slice none 0 0] 24))
  obtain⟨up,hup⟩:=kg (ub u6 h6.size 0)
  have Bp':jR up hp' h6.size [.slice none 0 0]:=by rw[hup,hhp];exact Bp
  rw[<-hhp,<-hup]at sp
  clear Bp
  have zp:hp'.size=h6.size+1:=by rw[hhp];simp
  obtain⟨b6,hb6⟩:=kg h6.size
  have hb6':h1.size<b6:=zO
  obtain⟨wa0,wc0,rfl,m1,m2⟩:=ow.sl
  simp only[oo]
  simp(disch:=first|omega|simp only[zz];try omega;done) only[↓reduceIte,go_sem,<-hh5,<-hh6,B5.2.1,B5.2.2.1,A5.at,A5.2.1,<-hhp]
  refine jC (.inr (.inl ⟨rfl,up,_,L,rfl,(ow6.sZ sp).iZ,hLl,λu7 h7 w7 s7 i7=>⟨jO,?_⟩⟩))
  obtain⟨Z,hZ⟩:=kg (rC L)
  have hZe: ∀s∈Z,s.length<=65537:=λs hs=>by rw[hZ]at hs;have:=Kl hs;omega
  rw[<-hZ]at i7 ha hwf
  have hZl:Z.length<=512:=by rw[ha,aU]at hal;exact hal
  obtain⟨wa,wc,rfl,n1,n2⟩:=i7.sl
  have A17:=(A16.sZ sp).sZ s7
  have A27:=(A26.sZ sp).sZ s7
  have X7:=Bp'.sZ s7
  have st7:=(st6.tZ sp).tZ s7
  rw[<-hb6]at X7
  simp only[↓reduceIte,go_sem,<-hb6]
  obtain⟨I,hI⟩:=kg (α:=Nat->ku->H->Prop) λk σ h'=> ∃(u':U) (wv:Value),σ 2= .pointer (some ⟨h.size,0,none⟩)/\σ 3= .pointer (some ⟨h1.size,0,none⟩)/\σ 6= .pointer (some ⟨b6,0,none⟩)/\σ 22= .slice wa Z.length wc/\σ 23= Jx JT (Z.length:Nat)/\σ 24= Jx JT k/\k<=Z.length/\jD S0 u h u' h'/\jR u' h' h.size [.slice none 0 0]/\jR u' h' h1.size [Jx JT 0,Jx JT 0,Jx JT 0]/\jR u' h' b6 [wv]/\lm hp'.size u' h' wv ((Z.take k).map oM)/\jS u' h' (.slice wa Z.length wc) Z
  refine jE I (λj=>Z.length - j) 0 (by rw[hI];exact⟨u7,_,zJ,zJ,zJ,zJ,zJ,zJ,zO,st7,A17,A27,X7,.nil _ _ _,i7⟩) ?_
  have hzk:h.size<hp'.size/\h1.size<hp'.size/\b6<hp'.size/\h.size<b6:=zO
  obtain⟨hk1,hk2,hk3,hk4⟩:=hzk
  have hz7:hp'.size<=h7.size:=s7.ge.sz
  clear hh5 hh6 B5 B51 A5 A51 A17 A27 X7 st7 i7 A16 A26 st6 ow6 s6 hh1 hh2 hhp Bp' sp B12 B2' B1' st2 s1 s2 hcE hcO hKE hKO
  intro k σ h' hy
  rw[hI]at hy
  obtain⟨u',wv,e2,e3,e6,e22,e23,e24,hk',st,A,F,X,ow,iw⟩:=hy
  have hA1:=A.1
  have hF1:=F.1
  have hX1:=X.1
  have hz:=st.ge.sz
  by_cases hlt:k<Z.length
  case neg=>
   obtain⟨va,vc,rfl,n1,n2⟩:=ow.sl
   rw[cB zO,<-ha]at ow X
   have A7:=A.sets (l:=[.slice va a.length vc]) rfl
   have s7:=jD.sets (S:=λb=>b=h.size) u' h' (b:=h.size) (o:=0) [.slice va a.length vc] rfl (by rw[A.2.2.2.1];exact aj _) (by rw[A.2.1];exact ak _)
   obtain⟨h9,hh9⟩:=kg (jW h' h.size 0 [.slice va a.length vc])
   rw[<-hh9]at A7 s7
   have F7:=F.step s7 zO
   have F8:=F7.sets (l:=[Jx JT 0,Jx JT 0,Jx JT 0]) rfl
   have s8:=jD.sets (S:=λb=>b=h1.size) u' h9 (b:=h1.size) (o:=0) [Jx JT 0,Jx JT 0,Jx JT 0] rfl (by rw[F7.2.2.2.1];exact aj _) (by rw[F7.2.1];exact ak _)
   obtain⟨h10,hh10⟩:=kg (jW h9 h1.size 0 [Jx JT 0,Jx JT 0,Jx JT 0])
   rw[<-hh10]at F8 s8
   have A8:=A7.step s8 zO
   have A81:=A8.1
   have F71:=F7.1
   have F81:=F8.1
   have hK':=hK _ _ _ ((st.trans s7 (λb hb q=>zO)).trans s8 (λb hb q=>zO)) (((ow.step s7 (λb q q'=>by have:=ow.ge q;omega)).step s8 (λb q q'=>by have:=ow.ge q;omega)).mono zO)
   simp only[oo]at hK'
   simp(disch:=first|omega|simp only[zz];try omega;done) only[↓reduceIte,go_sem,e2,e3,e6,e23,e24,ae (show¬(k:Int)<(Z.length:Nat) by omega),X.at,X.2.1,A.2.1,A.2.2.1,<-hh9,F7.2.1,F7.2.2.1,<-hh10,A8.at,A8.2.1,F8.at,F8.2.1]
   exact hK'
  obtain⟨x,hx⟩:=qP hlt
  have hxm:=aF hx
  have hxl:=hZe _ hxm
  obtain⟨a0,rest,hcut,hane,hrest⟩:=hwf _ hxm
  obtain⟨pb,po,rfl,hpb,hpu,hpz,hpr⟩:=iw.row k _ hx
  rw[mf]at hpr
  obtain⟨wx,hwx,ix⟩:=hpr
  have hszl:Rep.sz (List kR)=1:=rfl
  obtain⟨xa,xc,rfl,-,-⟩:=ix.sl
  simp only[hszl,qR,ax,aC]at hwx hpu hpz
  simp(disch:=omega) only[↓reduceIte,go_sem,e22,e23,e24,ai (show(k:Int)<(Z.length:Nat) by omega),hwx]
  refine jC (.inr (.inr (.inl ⟨rfl,u',_,x,9,rfl,ix,hxl,λu3 h3 w3 s3 o3=>⟨jO,?_⟩⟩)))
  have hce: ∀s∈ny 9 0 [] x,s.length<=65537:=λs hs=>by have:=yA 9 x 0 [] s hs;simp only[aA]at this;omega
  rw[hcut]at o3 hce
  have hal0:=hce a0 bu
  obtain⟨t,l,rfl⟩: ∃t l,a0=t::l:=by
   cases a0 with
   |nil=>exact absurd rfl hane
   |cons t l=>exact⟨t,l,rfl⟩
  have i3:=o3.iZ
  obtain⟨ca,cc,rfl,k1,k2⟩:=o3.sl
  obtain⟨cb,co,rfl,hcb,hcu,hcz,hcr⟩:=i3.row 0 _ rfl
  rw[mf]at hcr
  obtain⟨wy,hwy,iy⟩:=hcr
  obtain⟨ya,yc,rfl,-,-⟩:=iy.sl
  simp only[hszl,qR,ax,aC,fB,dO]at hwy hcu hcz
  have A3:=A.sZ s3
  have F3:=F.sZ s3
  have X3:=X.sZ s3
  have ow3:=ow.sZ s3
  have iw3:=iw.mono s3.ge
  have st3:=st.tZ s3
  have hkl:((Z.take k).map oM).length=k:=by simp;omega
  have hsn:(Z.take (k+1)).map oM=(Z.take k).map oM++[oM x]:=by
   rw[aX,hx];simp
  simp(disch:=omega) only[↓reduceIte,go_sem,hwy,au,ai (show(0:Int)<((rest.length+1:Nat):Int) by omega)]
  refine jC (.inr (.inr (.inr (.inl ⟨rfl,u3,_,t,l,rfl,iy,by simp only[au]at hal0;omega,λu4 h4 w4 s4 o4=>⟨jO,?_⟩⟩))))
  have i4:=o4.iZ
  obtain⟨w5a,w5c,rfl,k3,k4⟩:=o4.sl
  obtain⟨h5,h6',u6',hh5,hh6,B5,C5,s5,hz5⟩:=rA u4 h4 [str [],.slice none 0 0,Jx JT 0,.slice none 0 0] [str t.2.1,.slice w5a (lX l).length w5c,Jx JT t.2.2.2.2.1,.slice none 0 0] 54 rfl
  have A5:=(A3.sZ s4).sZ s5
  have F5:=(F3.sZ s4).sZ s5
  have X5:=(X3.sZ s4).sZ s5
  have ow5:=(ow3.sZ s4).sZ s5
  have iw5:=(iw3.mono s4.ge).mono s5.ge
  have st5:=(st3.tZ s4).tZ s5
  have i5:=i4.mono s5.ge
  have c5:=(i3.mono s4.ge).mono s5.ge
  have B51:=B5.1
  have C51:=C5.1
  have X51:=X5.1
  simp only[tX,tO]
  have hz34:h'.size<=h4.size:=by have:=s3.ge.sz;have:=s4.ge.sz;omega
  rcases hrest with rfl|⟨b,rfl,hbw⟩
  ·rw[abe hcut]at hsn
   simp only[↓reduceIte,go_sem,<-hh5,<-hh6,B5.2.1,B5.2.2.1,aA]
   obtain⟨va,vc,rfl,n1,n2⟩:=ow.sl
   obtain⟨y,hy⟩:=kg (α:=qg) ((nz (t::l),[]))
   rw[<-hy]at hsn
   have hrep:Rep.rep u6' h6' y [str t.2.1,.slice w5a (lX l).length w5c,Jx JT t.2.2.2.2.1,.slice none 0 0]:=by rw[CG,hy];exact⟨_,_,rfl,i5,.nil _ _⟩
   simp(disch:=first|omega|simp only[zz];try omega;done) only[go_sem,e6,X5.at,X5.2.1,C5.at,C5.2.1]
   refine lD (by simp only[]) ow5 (x:=y) hrep rfl rfl (by have:=st5.ge.sz;omega) zO λa8 n8 c8 u8 h8 o8 s8 hO8=>⟨jO,?_⟩
   obtain⟨_,_,hme,m81,m82⟩:=o8.sl
   simp only[Value.slice.injEq]at hme
   obtain⟨rfl,rfl,rfl⟩:=hme
   rw[<-hsn]at o8 ⊢
   have X8:=X5.step s8 (λq=>by have:=ow5.ge q;omega)
   have st8:=st5.trans s8 (λb hb q=>by have:=ow5.ge q;omega)
   have X81:=X8.1
   have i8:=iw5.mono s8.ge
   have A8:=A5.step s8 (λq=>by have:=ow5.ge q;omega)
   have F8:=F5.step s8 (λq=>by have:=ow5.ge q;omega)
   obtain⟨nl,hnl⟩:=kg (((Z.take (k+1)).map oM).length)
   rw[<-hnl]at o8 ⊢
   have X9:=X8.set (i:=0) (v:= .slice a8 nl c8) zP
   have s9:=jD.set (S:=λb=>b=b6) u8 h8 (b:=b6) (o:=0) (.slice a8 nl c8) rfl (by rw[X8.2.2.2.1];exact aj _)
   obtain⟨h9,hh9⟩:=kg (ky h8 b6 0 (.slice a8 nl c8))
   rw[<-hh9]at X9 s9
   simp only[cu]at X9
   have o9:=o8.step s9 (λb q q'=>by have:=o8.ge q;omega)
   simp(disch:=omega) only[↓reduceIte,go_sem,e6,e24,X8.2.1,X8.2.2.1,<-hh9]
   refine⟨k+1,?_,zO⟩
   rw[hI]
   refine⟨u8,_,?_,?_,?_,?_,?_,?_,hlt,st8.trans s9 (λb hb q=>zO),A8.step s9 zO,F8.step s9 zO,X9,o9,i8.mono s9.ge⟩<;>simp [jI,e2,e3,e6,e22,e23]
  ·rw[abf hcut]at hsn
   have hbl:=hce b zP
   obtain⟨cb',co',he,hdb,hdu,hdz,hdr⟩:=c5.row 1 b rfl
   cases he
   rw[mf]at hdr
   obtain⟨wz,hwz,iz⟩:=hdr
   obtain⟨za,zc,rfl,-,-⟩:=iz.sl
   simp only[hszl,qR,ax,aC,jb]at hwz hdu hdz
   simp(disch:=omega) only[↓reduceIte,go_sem,<-hh5,<-hh6,B5.2.1,B5.2.2.1,au,aA,hwz]
   refine jC (.inr (.inr (.inr (.inr ⟨rfl,u6',_,b,rfl,iz,hbl,hbw,λu7 h7 w7 s7 o7=>⟨jO,?_⟩⟩))))
   have i7b:=o7.iZ
   obtain⟨ba,bc,rfl,-,-⟩:=o7.sl
   have C7:=C5.sZ s7
   have C71:=C7.1
   have C8:=C7.set (i:=3) (v:= .slice ba (uf b).length bc) zP
   have s8':=jD.set (S:=λi=>i=h4.size) u7 h7 (b:=h4.size) (o:=3) (.slice ba (uf b).length bc) rfl (by rw[C7.2.2.2.1];exact aj _)
   obtain⟨h7',hh7'⟩:=kg (ky h7 h4.size 3 (.slice ba (uf b).length bc))
   rw[<-hh7']at C8 s8'
   simp only[dK,cu]at C8
   have A7:=(A5.sZ s7).step s8' zO
   have F7:=(F5.sZ s7).step s8' zO
   have X7:=(X5.sZ s7).step s8' zO
   have ow7:=(ow5.sZ s7).step s8' (λb q q'=>by have:=(ow.lt q);omega)
   have iw7:=(iw5.mono s7.ge).mono s8'.ge
   have st7:=(st5.tZ s7).trans s8' (λb hb q=>zO)
   have C81:=C8.1
   have X71:=X7.1
   simp only[↓reduceIte,go_sem,C7.2.1,C7.2.2.1,<-hh7']
   obtain⟨va,vc,rfl,n1,n2⟩:=ow.sl
   obtain⟨y,hy⟩:=kg (α:=qg) ((nz (t::l),uf b))
   rw[<-hy]at hsn
   have hrep:Rep.rep u7 h7' y [str t.2.1,.slice w5a (lX l).length w5c,Jx JT t.2.2.2.2.1,.slice ba (uf b).length bc]:=by rw[CG,hy];exact⟨_,_,rfl,((i5.mono s7.ge).mono s8'.ge),(i7b.mono s8'.ge)⟩
   simp(disch:=first|omega|simp only[zz];try omega;done) only[go_sem,e6,X7.at,X7.2.1,C8.at,C8.2.1]
   refine lD (by simp only[]) ow7 (x:=y) hrep rfl rfl (by have:=st7.ge.sz;omega) zO λa8 n8 c8 u8 h8 o8 s8 hO8=>⟨jO,?_⟩
   obtain⟨_,_,hme,m81,m82⟩:=o8.sl
   simp only[Value.slice.injEq]at hme
   obtain⟨rfl,rfl,rfl⟩:=hme
   rw[<-hsn]at o8 ⊢
   have X8:=X7.step s8 (λq=>by have:=ow7.ge q;omega)
   have st8:=st7.trans s8 (λb hb q=>by have:=ow7.ge q;omega)
   have X81:=X8.1
   have i8:=iw7.mono s8.ge
   have A8:=A7.step s8 (λq=>by have:=ow7.ge q;omega)
   have F8:=F7.step s8 (λq=>by have:=ow7.ge q;omega)
   obtain⟨nl,hnl⟩:=kg (((Z.take (k+1)).map oM).length)
   rw[<-hnl]at o8 ⊢
   have X9:=X8.set (i:=0) (v:= .slice a8 nl c8) zP
   have s9:=jD.set (S:=λb=>b=b6) u8 h8 (b:=b6) (o:=0) (.slice a8 nl c8) rfl (by rw[X8.2.2.2.1];exact aj _)
   obtain⟨h9,hh9⟩:=kg (ky h8 b6 0 (.slice a8 nl c8))
   rw[<-hh9]at X9 s9
   simp only[cu]at X9
   have o9:=o8.step s9 (λb q q'=>by have:=o8.ge q;omega)
   simp(disch:=omega) only[↓reduceIte,go_sem,e6,e24,X8.2.1,X8.2.2.1,<-hh9]
   refine⟨k+1,?_,zO⟩
   rw[hI]
   refine⟨u8,_,?_,?_,?_,?_,?_,?_,hlt,st8.trans s9 (λb hb q=>zO),A8.step s9 zO,F8.step s9 zO,X9,o9,i8.mono s9.ge⟩<;>simp [jI,e2,e3,e6,e22,e23]
end Go.Proofs.Z
