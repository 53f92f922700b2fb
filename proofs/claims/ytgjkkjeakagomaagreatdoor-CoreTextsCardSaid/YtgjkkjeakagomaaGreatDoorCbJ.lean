/- A part of the proof. -/
import Derived.Test.YtgjkkjeakagomaaGreatDoorKpB
import Derived.Test.YtgjkkjeakagomaaGreatDoorWellB
set_option linter.all false
set_option maxRecDepth 100000
set_option maxHeartbeats 4000000
open Go.Value renaming int→Jx
open Go.IntKind renaming i64→JT
namespace Go.Ev
open Go Edict
@[instance_reducible] def repPart:Rep jM where
 sz:=1
 rep _ _ t cs:=cs=[.iface 296 (.agg (jM.enc t).toArray)]
 wf _:=True
 bulk _:=1
 szp:=Nat.one_pos
 len h:=by subst h;rfl
 ok h:=by subst h;rfl
 mono _ h:=h
 pos _:=ak _
end Go.Ev
namespace Go.Proofs.Z
open Go Go.Ev Edict
variable {vs:List Value} {h:H} {K:Value->H->Prop} {KP:List PanicEntry->H->Prop}
abbrev akV(k:Nat)(u:U)(h:H)(v:Value)(l:List jM):Prop:= @lm jM repPart k u h v l
abbrev adT(u:U)(h:H)(v:Value)(l:List jM):Prop:= @jS jM repPart u h v l
def YL(vs:List Value)(h:H)(K:Value->H->Prop):Prop:= ∃(u:U) (t:jM),vs=[.agg (jM.enc t).toArray]/\ ∀u' h',jD S0 u h u' h'->K (.iface 296 (.agg (jM.enc t).toArray)) h'
theorem Wv(hC:YL vs h K):kN Tryz.prog 225 vs h K KP:=by
 obtain⟨u,t,rfl,hK⟩:=hC
 refine jJ 7 [(none,(.t 2))] (G:=(λ_ _ _ _ _=>False)) (λ_ _ _ _ _ h=>h.elim) Tryz.func225 ?_
 simp(disch:=omega) only[↓reduceIte,go_sem,jM.enc]
 exact hK _ _ (jD.qZ S0 u h _ _)
def YM(vs:List Value)(h:H)(K:Value->H->Prop):Prop:= ∃(u:U) (v:Value) (l:List jM),vs=[v,.func (.func 225) #[] #[]]/\jS u h v l/\l.length<=1048576/\ ∀u' h' w,jD S0 u h u' h'->adT u' h' w l->K w h'
def aaH:lq:=λf vs h K _=>f=225/\YL vs h K
theorem Oz:lQ Tryz.prog aaH:=by
 rintro f vs h K KP ⟨rfl,hC⟩;exact Wv hC
theorem Ww(hC:YM vs h K):kN Tryz.prog 224 vs h K KP:=by
 obtain⟨u,v,l,rfl,hl,hlen,hK⟩:=hC
 obtain⟨la,lc,rfl,q1,q2⟩:=hl.sl
 have hm:=Gt
 refine jJ 30899 [(none,(.t 4))] Oz Tryz.func224 ?_
 simp only[↓reduceIte,go_sem]
 have s0:jD S0 u h (ub u h.size 0) (h.push (.cells (rf [Value.nilIface] l.length).toArray 228)):=jD.qZ S0 u h _ _
 have o0:akV h.size (ub u h.size 0) (h.push (.cells (rf [Value.nilIface] l.length).toArray 228)) (.slice (some ⟨h.size,0,none⟩) 0 l.length) []:=
  .inr ⟨h.size,l.length,rfl,aj _,zO,ak _,zP,by rw[uo rfl];show _=l.length*1;simp [rf],uS rfl,AX,λi x hx=>by simp at hx⟩
 refine⟨zO,?_⟩
 obtain⟨I,hI⟩:=kg (α:=Nat->ku->H->Prop) λi σ h'=>σ 1= .func (.func 225) #[] #[]/\σ 11= .slice la l.length lc/\σ 12= Jx JT l.length/\σ 13= Jx JT i/\i<=l.length/\
  ∃u',jD S0 u h u' h'/\akV h.size u' h' (σ 5) (l.take i)
 refine jE I (λi=>l.length - i) 0 (by
  rw[hI]
  exact⟨zJ,zJ,zJ,zJ,aj _,_,s0,by simpa [jI]using o0⟩) ?_
 clear o0 s0
 intro i σ h' hy
 rw[hI]at hy
 obtain⟨e1,e11,e12,e13,hi,u',st,ho⟩:=hy
 by_cases hlt:i<l.length
 ·obtain⟨t,ht⟩:=qP hlt
  obtain⟨tb,to,rfl,htb,htu,htz,htr⟩:=(hl.mono st.ge).row i t ht
  rw[ko]at htr
  simp only[jM.enc,lG,mQ,ax,aC]at htr htu htz
  obtain⟨t0,t1,t2,t3⟩:=htr
  have sp:=jD.qZ S0 u' h' #[Jx JT t.1,Jx JT t.2.1,str t.2.2.1,Jx JT t.2.2.2] 74
  simp(disch:=omega) only[↓reduceIte,go_sem,e1,e11,e12,e13,hlt,t0,t1,t2,t3]
  refine vS ⟨rfl,ub u' h'.size 0,t,rfl,λu2 h2 s2=>⟨jO,?_⟩⟩
  have st2:=sp.tZ s2
  have ho2:= @lm.sZ jM repPart _ _ _ _ _ _ _ ho st2
  have hkl:h.size<=h2.size:=(st.tZ st2).ge.sz
  simp only[↓reduceIte,go_sem]
  refine @lM jM repPart _ _ _ _ _ _ _ _ _ _ _ _ t _ _ _ _ _ _ ho2 rfl rfl rfl hkl (by rw[aR];omega) λa' n' c' u3 h3 ho3 s3=>⟨jO,?_⟩
  simp(disch:=omega) only[↓reduceIte,go_sem,e13]
  refine⟨i+1,?_,zO⟩
  rw[hI]
  refine⟨by simp [jI,e1],by simp [jI,e11],by simp [jI,e12],zJ,hlt,u3,(st.tZ st2).trans s3 (λj hj hB=>by have:= @lm.ge jM repPart _ _ _ _ _ ho2 _ hB;omega),?_⟩
  rw[aX,ht,bC]
  simpa [jI]using ho3
 ·obtain rfl:i=l.length:=zO
  rw[aK]at ho
  simp only[↓reduceIte,go_sem,e12,e13]
  exact hK _ _ _ st (@lm.iZ jM repPart _ _ _ _ _ ho)
theorem JU {G:lq} {tab:List (TypeId×FuncId)} {g:FuncId} {ty:TypeId} {v:Value} {d:Option Nat} {st:su} {r:List St} {K:ku->H->Prop} {KP:List PanicEntry->H->Prop} {vs:List Value} {σ:ku} {h:H}
  (hg:Ib tab ty=some g) (hc:G g (v::vs) h (λv h'=>mq st σ h h'/\kT G r K KP (nD σ d v) h') KP):nZ G (.inv tab) d st r K KP (.iface ty v::vs) σ h:=by
 unfold nZ qp
 simp only[hg]
 exact hc
def Mv(vs:List Value)(h:H)(K:Value->H->Prop):Prop:= ∃(b:Nat) (v:Value) (l:List jM) (u0:U),vs=[.pointer (some ⟨b,0,none⟩),str [44,32],v]/\(∀t∈l,Rep.wf t/\mY t=0)/\l.length<=8/\
 ∃(k:Nat) (u:U) (m0:List UInt8),Bu k u h b m0/\m0.length<=4096/\Ac u h/\adT u h v l/\
 ∀u' h' (m:List UInt8),jD (lZ h b) u h u' h'->Bu k u' h' b (m0++m)->m.length<=20480->(∀i,lZ h' b i->lZ h b i\/h.size<=i)->K (.tuple #[]) h'
def FW:lq:=λf vs h K _=>(f=226/\EY vs h K)\/(f=236/\YN vs h K)
theorem JV:lQ Tryz.prog FW:=lY pJ (pX Wy)
theorem yw{b:Nat}{ua ub uc:U}{ha hb hc:H}(p1:jD (lZ ha b) ua ha ub hb)(p2: ∀j,lZ hb b j->lZ ha b j\/ha.size<=j)(p3:jD (lZ hb b) ub hb uc hc)(p4: ∀j,lZ hc b j->lZ hb b j\/hb.size<=j):
  jD (lZ ha b) ua ha uc hc/\ ∀j,lZ hc b j->lZ ha b j\/ha.size<=j:=
 ⟨p1.trans p3 (λj hj hB=>(p2 j hB).elim id (λh=>zO)),λj hB=>(p4 j hB).elim (p2 j) (λh=> .inr (aT p1.ge.sz h))⟩
theorem OA(hC:Mv vs h K):kN Tryz.prog 228 vs h K KP:=by
 obtain⟨b,v,l,-,rfl,hall,hlen,k,u,m0,B,hm0,hP,hl,hK⟩:=hC
 obtain⟨la,lc,rfl,q1,q2⟩:= @jS.sl jM repPart _ _ _ _ hl
 refine Td FW JV _ _ _ ?_
 simp only[↓reduceIte,go_sem,FY,FZ]
 obtain⟨I,hI⟩:=kg (α:=Nat->ku->H->Prop) λi σ h'=>σ 0= .pointer (some ⟨b,0,none⟩)/\σ 1=str [44,32]/\σ 8= .slice la l.length lc/\σ 9= Jx JT l.length/\σ 10= Jx JT i/\i<=l.length/\
  ∃(u':U) (m:List UInt8),jD (lZ h b) u h u' h'/\Bu k u' h' b (m0++m)/\m.length<=2050*i/\ ∀j,lZ h' b j->lZ h b j\/h.size<=j
 refine jE I (λi=>l.length - i) 0 (by
  rw[hI]
  exact⟨zJ,zJ,zJ,zJ,zJ,aj _,u,[],.refl _ _ _,by simpa using B,zP,λj hB=> .inl hB⟩) ?_
 intro i σ h' hy
 rw[hI]at hy
 obtain⟨e0,e1,e8,e9,e10,hi,u',m,st,B',hm,hbb⟩:=hy
 by_cases hlt:i<l.length
 ·obtain⟨t,ht⟩:=qP hlt
  obtain⟨w1,w2⟩:=hall t (aF ht)
  obtain⟨tb,to,rfl,htb,htu,htz,htr⟩:= @jS.row jM repPart _ _ _ _ _ _ (@jS.mono jM repPart _ _ _ _ _ _ st.ge hl) i t ht
  have lS: @Rep.sz jM repPart=1:=rfl
  rw[lS]at htu htz htr
  have htr:Go.Ev.hv h' tb (to+i*1)= .iface 296 (.agg (jM.enc t).toArray):=by
   have:=(show qV h' tb (to+i*1) 1=[.iface 296 (.agg (jM.enc t).toArray)]from htr)
   rw[qR]at this
   simpa using this
  have fin: ∀(σ':ku) (u3:U) (h3:H) (x:List UInt8),σ' 0=σ 0->σ' 1=σ 1->σ' 8=σ 8->σ' 9=σ 9->σ' 10= Jx JT ((i:Int)+1)->jD (lZ h' b) u' h' u3 h3->Bu k u3 h3 b (m0++m++x)->x.length<=2050->
    (∀j,lZ h3 b j->lZ h' b j\/h'.size<=j)-> ∃y,I y σ' h3/\l.length - y<l.length - i:=λσ' u3 h3 x g0 g1 g8 g9 g10 s3 B3 hx hb3=>by
   refine⟨i+1,?_,zO⟩
   rw[hI]
   obtain⟨c1,c2⟩:=yw st hbb s3 hb3
   exact⟨by rw[g0,e0],by rw[g1,e1],by rw[g8,e8],by rw[g9,e9],g10,hlt,u3,m++x,c1,by rw[<-bE];exact B3,by rw[ay];omega,c2⟩
  by_cases h0:i=0
  ·simp(disch:=omega) only[↓reduceIte,go_sem,vo,e0,e8,e9,e10,hlt,htr,ae (show¬(0:Int)<i by omega)]
   refine JU rfl (.inr ⟨rfl,b,t,rfl,w1,w2,k,u',m0++m,B',by rw[ay];omega,hP.mono st.ge,λu3 h3 x s3 B3 hx hb3=>⟨jO,?_⟩⟩)
   simp(disch:=omega) only[↓reduceIte,go_sem,e10]
   exact fin _ u3 h3 x zJ zJ zJ zJ zJ s3 B3 zO hb3
  ·simp(disch:=omega) only[↓reduceIte,go_sem,vo,e0,e1,e8,e9,e10,hlt,htr,ai (show(0:Int)<i by omega)]
   refine jC (.inl ⟨rfl,_,[44,32],rfl,k,u',b,m0++m,rfl,B',by rw[ay];simp;omega,λu2 h2 s2 B2 hb2=>⟨jO,?_⟩⟩)
   simp only[↓reduceIte,go_sem,e0]
   refine JU rfl (.inr ⟨rfl,b,t,rfl,w1,w2,k,u2,_,B2,by simp;omega,hP.mono (st.ge.trans s2.ge),λu3 h3 x s3 B3 hx hb3=>⟨jO,?_⟩⟩)
   simp(disch:=omega) only[↓reduceIte,go_sem,e10]
   obtain⟨c1,c2⟩:=yw s2 hb2 s3 hb3
   rw[bE (m0++m)]at B3
   exact fin _ u3 h3 _ zJ zJ zJ zJ zJ c1 B3 (by simp;omega) c2
 ·obtain rfl:i=l.length:=zO
  simp only[↓reduceIte,go_sem,vo,e9,e10]
  exact hK u' h' m st B' zO hbb
end Go.Proofs.Z
namespace Edict
theorem JR{α:Type}{f:α->Int}: ∀{l:List α},ng f l=0-> ∀x∈l,f x=0
 |[],_,x,hx=>by cases hx
 |a::l,h,x,hx=>by
  unfold ng at h
  by_cases e:f a=0
  ·rw[ah e]at h
   rcases aH.1 hx with rfl|hx
   ·exact e
   ·exact JR h x hx
  ·rw[af e]at h;exact absurd h e
theorem Wt{a:kZ}(h:nC a=0):qY a.1=true/\a.2.1.length<=8/\ ∀t∈a.2.1,mY t=0:=by
 unfold nC at h
 by_cases h1:qY a.1=true
 ·rw[ah h1]at h
  by_cases h2:8<a.2.1.length
  ·rw[ah h2]at h;cases h
  ·rw[af h2]at h
   exact⟨h1,zO,JR h⟩
 ·rw[af h1]at h;cases h
theorem agP{s:List UInt8}(h:qY s=true):s≠[]:=by
 rintro rfl
 simp [qY,zn]at h
end Edict
namespace Go.Proofs.Z
open Go Go.Ev Edict
variable {vs:List Value} {h:H} {K:Value->H->Prop} {KP:List PanicEntry->H->Prop}
def Mt(vs:List Value)(h:H)(K:Value->H->Prop):Prop:= ∃(b:Nat) (p:List UInt8) (v:Value) (l:List jM) (k:Nat) (u:U),vs=[.pointer (some ⟨b,0,none⟩),str p,v]/\(∀t∈l,Rep.wf t/\mY t=0)/\l.length<=8/\p.length<=64/\p≠[]/\
 Bu k u h b []/\Ac u h/\adT u h v l/\
 ∀u' h' (m:List UInt8),jD (lZ h b) u h u' h'->Bu k u' h' b m->m≠[]->m.length<=32768->K (.tuple #[]) h'
def SG:lq:=λf vs h K _=>(f=226/\EY vs h K)\/(f=227/\OD vs h K)\/(f=228/\Mv vs h K)
theorem JS:lQ Tryz.prog SG:=lY pJ (lY AO (pX OA))
theorem Ox(hC:Mt vs h K):kN Tryz.prog 223 vs h K KP:=by
 obtain⟨b,p,v,l,k,u,rfl,hall,hlen,hp,hpn,B,hP,hl,hK⟩:=hC
 obtain⟨la,lc,rfl,q1,q2⟩:= @jS.sl jM repPart _ _ _ _ hl
 refine jJ 2055 [] JS Tryz.func223 ?_
 simp only[↓reduceIte,go_sem]
 refine jC (.inl ⟨rfl,_,p,rfl,k,u,b,[],rfl,B,by simp;omega,λu1 h1 s1 B1 hb1=>⟨jO,?_⟩⟩)
 rw[aJ]at B1
 by_cases h0:l.length=0
 ·simp only[↓reduceIte,go_sem,ae (show¬(0:Int)<l.length by omega)]
  exact hK u1 h1 p s1 B1 hpn zO
 ·simp only[↓reduceIte,go_sem,ai (show(0:Int)<l.length by omega)]
  refine jC (.inr (.inl ⟨rfl,_,40,rfl,k,u1,b,p,rfl,B1,by simp;omega,λu2 h2 s2 B2 hb2=>⟨jO,?_⟩⟩))
  obtain⟨c1,c2⟩:=yw s1 hb1 s2 hb2
  simp only[↓reduceIte,go_sem,jN]
  refine jC (.inr (.inr ⟨rfl,b,_,l,u2,rfl,hall,hlen,k,u2,_,B2,by simp;omega,hP.mono c1.ge,@jS.mono jM repPart _ _ _ _ _ _ c1.ge hl,λu3 h3 m s3 B3 hm hb3=>⟨jO,?_⟩⟩))
  obtain⟨c3,c4⟩:=yw c1 c2 s3 hb3
  simp only[↓reduceIte,go_sem,jN]
  refine jC (.inr (.inl ⟨rfl,_,41,rfl,k,u3,b,_,rfl,B3,by simp;omega,λu4 h4 s4 B4 hb4=>⟨jO,?_⟩⟩))
  obtain⟨c5,-⟩:=yw c3 c4 s4 hb4
  simp only[go_sem,jN]
  exact hK u4 h4 _ c5 B4 zP (by simp;omega)
def YJ(vs:List Value)(h:H)(K:Value->H->Prop):Prop:= ∃(b:Nat) (a:kZ) (v:Value) (k:Nat) (u:U),vs=[.agg #[str a.1,v,Jx JT a.2.2],.pointer (some ⟨b,0,none⟩)]/\jS u h v a.2.1/\(∀t∈a.2.1,Rep.wf t)/\nC a=0/\
 Bu k u h b []/\Ac u h/\ ∀u' h' (m:List UInt8),jD (lZ h b) u h u' h'->Bu k u' h' b m->m≠[]->m.length<=32768->K (.tuple #[]) h'
def aaE:lq:=λf vs h K _=>(f=224/\YM vs h K)\/(f=223/\Mt vs h K)
theorem Oy:lQ Tryz.prog aaE:=lY Ww (pX Ox)
theorem Wu(hC:YJ vs h K):kN Tryz.prog 222 vs h K KP:=by
 obtain⟨b,a,v,k,u,rfl,hl,hw,ha,B,hP,hK⟩:=hC
 obtain⟨z1,z2,z3⟩:=Wt ha
 obtain⟨la,lc,rfl,q1,q2⟩:=hl.sl
 refine jJ 7 [] Oy Tryz.func222 ?_
 have sp:jD S0 u h _ _:=jD.qZ S0 u h #[str a.1,.slice la a.2.1.length lc,Jx JT a.2.2] 209
 have X:jR (ub u h.size 0) (h.push (.cells #[str a.1,.slice la a.2.1.length lc,Jx JT a.2.2] 209)) h.size [str a.1,.slice la a.2.1.length lc,Jx JT a.2.2]:=(jR.mk zY zE zE (by repeat (first|(refine lU ?_;simp only[];done)|apply kG)) zE)
 simp(disch:=omega) only[↓reduceIte,go_sem]
 refine jC (.inl ⟨rfl,ub u h.size 0,_,a.2.1,rfl,hl.mono sp.ge,zO,λu1 h1 w s1 hw1=>⟨?_,?_⟩⟩)
 ·have X1:=X.sZ s1
  simp(disch:=first|omega|simp only[zz];try omega;done) only[↓reduceIte,go_sem,X.at,X1.at,X1.2.1]
 have st1:=sp.tZ s1
 obtain⟨B1,e1⟩:=B.sZ st1
 simp only[↓reduceIte,go_sem,jN]
 refine jC (.inr ⟨rfl,b,a.1,w,a.2.1,k,u1,rfl,λt ht=>⟨hw t ht,z3 t ht⟩,z2,SN z1,agP z1,B1,hP.mono st1.ge,hw1,λu2 h2 m s2 B2 hm hml=>⟨jO,?_⟩⟩)
 have eB: ∀j,lZ h1 b j->lZ h b j:=λj hB=>hB.imp id λhB=>by rw[e1]at hB;exact hB
 simp only[go_sem,jN]
 exact hK u2 h2 m ((st1.mono (S':=lZ h b) (λ_ _ h=>h.elim)).trans s2 (λj _ hB=>eB j hB)) B2 hm hml
def YK(vs:List Value)(h:H)(K:Value->H->Prop):Prop:= ∃(a:kZ) (v:Value) (u:U),vs=[Jx JT (nC a),.iface 209 (.agg #[str a.1,v,Jx JT a.2.2])]/\jS u h v a.2.1/\(∀t∈a.2.1,Rep.wf t)/\Ac u h/\
 ∀u' h' (s:List UInt8),jD S0 u h u' h'->(s=[]↔nC a≠0)->K (str s) h'
def SH:lq:=λf vs h K _=>(f=222/\YJ vs h K)\/(f=151/\EZ vs h K)
theorem SI:lQ Tryz.prog SH:=lY Wu (pX FX)
theorem aaF(hC:YK vs h K):kN Tryz.prog 128 vs h K KP:=by
 obtain⟨a,v,u,rfl,hl,hw,hP,hK⟩:=hC
 refine adW SH SI _ _ ?_
 by_cases h0:nC a=0
 ·simp only[↓reduceIte,go_sem,JW,JX,ai h0]
  have sp:jD S0 u h _ _:=jD.qZ S0 u h #[.pointer none,.slice none 0 0] 231
  have B:=Bu.new u h
  refine JU rfl (.inl ⟨rfl,h.size,a,v,h.size,ub u h.size 0,rfl,hl.mono sp.ge,hw,h0,B,hP.mono sp.ge,λu1 h1 m s1 B1 hm _=>⟨jO,?_⟩⟩)
  have st1:jD S0 u h u1 h1:=sp.trans s1 (λi hi hB=>by have:=(B.ge hB).1;omega)
  simp only[↓reduceIte,go_sem,jN]
  refine jC (.inr ⟨rfl,h.size,u1,h.size,m,rfl,B1,hm,λh2 hs hb=>⟨jO,?_⟩⟩)
  simp only[↓reduceIte,go_sem,jN]
  exact hK u1 h2 m (jD.below st1 hs hb) ⟨λe=>absurd e hm,λe=>absurd h0 e⟩
 ·simp only[↓reduceIte,go_sem,JW,JX,ae h0]
  exact hK u h [] (.refl _ _ _) ⟨λ_=>h0,λ_=>rfl⟩
def SK(vs:List Value)(h:H)(K:Value->H->Prop):Prop:= ∃(a:kZ) (v:Value) (u:U),vs=[.agg #[str a.1,v,Jx JT a.2.2]]/\jS u h v a.2.1/\Rep.wf a/\Ac u h/\
 ∀u' h' (s:List UInt8),jD S0 u h u' h'->(s=[]↔nC a≠0)->K (str s) h'
def adS:lq:=λf vs h K _=>(f=125/\lL (vI nC) vs h K)\/(f=128/\YK vs h K)
theorem SL:lQ Tryz.prog adS:=lY xC (pX aaF)
theorem aaG(hC:SK vs h K):kN Tryz.prog 101 vs h K KP:=by
 obtain⟨a,v,u,rfl,hl,hw,hP,hK⟩:=hC
 obtain⟨la,lc,rfl,q1,q2⟩:=hl.sl
 refine jJ 7 [(none,(.t 2))] SL Tryz.func101 ?_
 have sp:jD S0 u h _ _:=jD.qZ S0 u h #[str a.1,.slice la a.2.1.length lc,Jx JT a.2.2] 51
 have X:jR (ub u h.size 0) (h.push (.cells #[str a.1,.slice la a.2.1.length lc,Jx JT a.2.2] 51)) h.size [str a.1,.slice la a.2.1.length lc,Jx JT a.2.2]:=(jR.mk zY zE zE (by repeat (first|(refine lU ?_;simp only[];done)|apply kG)) zE)
 simp(disch:=omega) only[↓reduceIte,go_sem]
 refine jC (.inl ⟨rfl,ub u h.size 0,a,[str a.1,.slice la a.2.1.length lc,Jx JT a.2.2],rfl,by rw[kE];exact⟨_,rfl,hl.mono sp.ge⟩,hw,λu1 h1 s1=>⟨?_,?_⟩⟩)
 ·have X1:=X.sZ s1
  simp(disch:=first|omega|simp only[zz];try omega;done) only[↓reduceIte,go_sem,X.at,X1.at,X1.2.1]
 have st1:=sp.tZ s1
 simp only[vI]
 simp only[↓reduceIte,go_sem,jN]
 refine jC (.inr ⟨rfl,a,_,u1,rfl,hl.mono st1.ge,hw.2.1.2,hP.mono st1.ge,λu2 h2 s s2 hs=>⟨jO,?_⟩⟩)
 simp only[↓reduceIte,go_sem,jN]
 exact hK u2 h2 s (st1.tZ s2) hs
end Go.Proofs.Z
namespace Go.Proofs.Z
open Go Go.Ev Edict
def SC(vs:List Value)(h:H)(K:Value->H->Prop):Prop:= ∃(u:U) (v:Value) (l:List kZ),vs=[v]/\jS u h v l/\Rep.wf l/\Ac u h/\
 (∀u' h',jD S0 u h u' h'->(∀a∈l,JE a=true)->K (Jx JT (-1)) h')/\
 (∀u' h' (i:Nat) (a:kZ),jD S0 u h u' h'->l[i]? =some a->JE a=false->(∀x∈l.take i,JE x=true)->K (Jx JT i) h')
def Wp:lq:=λf vs h K _=>f=101/\SK vs h K
theorem KU:lQ Tryz.prog Wp:=by
 rintro f vs h K KP ⟨rfl,hC⟩;exact aaG hC
theorem SE{vs:List Value}{h:H}{K:Value->H->Prop}{KP:List PanicEntry->H->Prop}(hC:SC vs h K):kN Tryz.prog 63 vs h K KP:=by
 obtain⟨u,v,l,rfl,hl,hw,hP,hK1,hK2⟩:=hC
 obtain⟨la,lc,rfl,q1,q2⟩:=hl.sl
 have hm:=lC
 refine jJ 142149597 [(none,(.t 2))] KU Tryz.func63 ?_
 simp only[↓reduceIte,go_sem]
 obtain⟨I,hI⟩:=kg (α:=Nat->ku->H->Prop) λi σ h'=>σ 7= .slice la l.length lc/\σ 8= Jx JT l.length/\σ 9= Jx JT i/\i<=l.length/\(∀x∈l.take i,JE x=true)/\ ∃u',jD S0 u h u' h'
 refine jE I (λi=>l.length - i) 0 (by
  rw[hI]
  exact⟨zJ,zJ,zJ,aj _,zP,u,.refl _ _ _⟩) ?_
 intro i σ h' hy
 rw[hI]at hy
 obtain⟨e7,e8,e9,hi,hg,u',st⟩:=hy
 by_cases hlt:i<l.length
 ·obtain⟨x,hs⟩:=qP hlt
  have hwx:=hw.2 x (aF hs)
  obtain⟨pb,po,rfl,hpb,hpu,hpz,hpr⟩:=(hl.mono st.ge).row i x hs
  rw[kE]at hpr
  obtain⟨pv,hpr,hpv⟩:=hpr
  obtain⟨pva,pvc,rfl,r1,r2⟩:=hpv.sl
  simp only[qK,uq,ax,aC]at hpr hpu hpz
  obtain⟨p0,p1,p2⟩:=hpr
  have sp:=jD.qZ S0 u' h' #[str x.1,.slice pva x.2.1.length pvc,Jx JT x.2.2] 51
  have X:jR (ub u' h'.size 0) (h'.push (.cells #[str x.1,.slice pva x.2.1.length pvc,Jx JT x.2.2] 51)) h'.size [str x.1,.slice pva x.2.1.length pvc,Jx JT x.2.2]:=(jR.mk zY zE zE (by repeat (first|(refine lU ?_;simp only[];done)|apply kG)) zE)
  simp(disch:=omega) only[↓reduceIte,go_sem,e7,e8,e9,hlt,p0,p1,p2]
  refine jC ⟨rfl,x,_,ub u' h'.size 0,rfl,hpv.mono sp.ge,hwx,hP.mono (st.tZ sp).ge,λu2 h2 s s2 hse=>⟨jO,?_⟩⟩
  have X2:=X.sZ s2
  have st2:=(st.tZ sp).tZ s2
  have hpv2:=(hpv.mono sp.ge).mono s2.ge
  by_cases ha:nC x=0
  ·have hsn: ¬s=[]:=λe=>(hse.1 e) ha
   simp(disch:=first|omega|simp only[zz];try omega;done) only[↓reduceIte,go_sem,ae hsn,X2.at,X2.2.1]
   obtain⟨J,hJ⟩:=kg (α:=Nat->ku->H->Prop) λj σ' h3=>σ' 7= .slice (some ⟨pb,po,none⟩) l.length lc/\σ' 8= Jx JT l.length/\σ' 9= Jx JT i/\σ' 3= Jx JT i/\σ' 19= .slice pva x.2.1.length pvc/\σ' 20= Jx JT x.2.1.length/\σ' 21= Jx JT j/\j<=x.2.1.length/\
    (∀t∈x.2.1.take j,¬t.1=4)/\ ∃u3,jD S0 u h u3 h3/\jS u3 h3 (.slice pva x.2.1.length pvc) x.2.1
   refine jE J (λj=>x.2.1.length - j) 0 (by
    rw[hJ]
    exact⟨by simp [jI,e7],by simp [jI,e8],by simp [jI,e9],zJ,zJ,zJ,zJ,aj _,zP,u2,st2,hpv2⟩) ?_
   clear hpv hpv2 X X2 st2 s2 sp st e7 e8 e9 hpz hpu p0 p1 p2 hpb
   intro j σ' h3 hy
   rw[hJ]at hy
   obtain⟨e7,e8,e9,e3,e19,e20,e21,hj,hng,u3,st,hpv⟩:=hy
   by_cases hlt2:j<x.2.1.length
   ·obtain⟨t,ht⟩: ∃t,x.2.1[j]? =some t:=⟨x.2.1[j],by simp [hlt2]⟩
    obtain⟨tb,to,rfl,htb,htu,htz,htr⟩:=hpv.row j t ht
    rw[ko]at htr
    simp only[jM.enc,lG,mQ,ax,aC]at htr htu htz
    obtain⟨t0,t1,t2,t3⟩:=htr
    have sp:=jD.qZ S0 u3 h3 #[Jx JT t.1,Jx JT t.2.1,str t.2.2.1,Jx JT t.2.2.2] 74
    by_cases h4:t.1=4
    ·simp(disch:=omega) only[↓reduceIte,go_sem,e3,e19,e20,e21,hlt2,t0,t1,t2,t3,ai h4]
     refine hK2 _ _ i x (st.tZ sp) hs ?_ hg
     unfold JE
     rw[je]
     right
     rw[List.all_eq_false]
     exact⟨t,aF ht,by simp [h4]⟩
    ·simp(disch:=omega) only[↓reduceIte,go_sem,e19,e20,e21,hlt2,t0,t1,t2,t3,ae h4]
     refine⟨j+1,?_,zO⟩
     rw[hJ]
     refine⟨by simp [jI,e7],by simp [jI,e8],by simp [jI,e9],by simp [jI,e3],by simp [jI,e19],by simp [jI,e20],zJ,hlt2,λy hy=> ?_,_,st.tZ sp,hpv.mono sp.ge⟩
     rw[aX,ht,bC,aV,aY]at hy
     rcases hy with hy|rfl
     ·exact hng y hy
     ·exact h4
   ·obtain rfl:j=x.2.1.length:=zO
    rw[aK]at hng
    have hgx:JE x=true:=by
     unfold JE
     rw[aM,aL,bI]
     exact⟨ha,λt ht=>by simp [hng t ht]⟩
    simp(disch:=omega) only[↓reduceIte,go_sem,e9,e20,e21]
    refine⟨i+1,?_,zO⟩
    rw[hI]
    refine⟨by simp [jI,e7],by simp [jI,e8],zJ,hlt,λy hy=> ?_,u3,st⟩
    rw[aX,hs,bC,aV,aY]at hy
    rcases hy with hy|rfl
    ·exact hg y hy
    ·exact hgx
  ·have hsn:s=[]:=hse.2 ha
   simp only[↓reduceIte,go_sem,ai hsn]
   refine hK2 _ _ i x st2 hs ?_ hg
   unfold JE
   rw[aI ha];rfl
 ·obtain rfl:i=l.length:=zO
  rw[aK]at hg
  simp only[↓reduceIte,go_sem,e8,e9]
  exact hK1 _ _ st hg
end Go.Proofs.Z
namespace Go.Ev
open Go Edict
def ksC:List Kc:=[.int .i64,.int .i64,.str]
def AJ(c:jK):Value:= .agg #[Jx JT c.1,Jx JT c.2.1,str c.2.2]
theorem AL(a b:jK)(h:AJ a=AJ b):a=b:=by
 obtain⟨a1,a2,a3⟩:=a
 obtain⟨b1,b2,b3⟩:=b
 simp only[AJ,Value.agg.injEq,Array.mk.injEq,ax,Value.int.injEq,true_and,aC]at h
 obtain⟨h1,h2,h3⟩:=h
 rw[h1,h2,CV h3]
theorem Wo{n:Int}(h: -9223372036854775808<=n/\n<=9223372036854775807):(Lit.int .i64 n).wf=true:=by
 have e1:IntKind.i64.min= -9223372036854775808:=zD
 have e2:IntKind.i64.max=9223372036854775807:=zD
 simp [Lit.wf,e1,e2,h.1,h.2]
theorem Gq{c:jK}(h:Rep.wf c):Ch ksC (AJ c)=true:=by
 obtain⟨h1,h2,h3⟩:=h
 have e1:=Wo h1
 have e2:=Wo h2
 have e3:c.2.2.length<=maxLen:=h3
 simp only[Ch,ksC,AJ,qm,HY,e1,e2,str,decide_true,gM,dI,aL]
 simpa [ByteArray.size]using e3
def ksK:List Kc:=List.replicate 9 (.int .i64)
def zu(l:List Int):Value:= .agg (l.map (Value.int .i64)).toArray
theorem SB(a b:List Int)(h:zu a=zu b):a=b:=by
 simp only[zu,Value.agg.injEq,Array.mk.injEq]at h
 exact List.map_inj_right (λx y e=>by simpa using e) |>.1 h
end Go.Ev
namespace Go.Proofs.Z
open Go Go.Ev Edict
variable {vs:List Value} {h:H} {K:Value->H->Prop} {KP:List PanicEntry->H->Prop}
theorem CB(hC:rR vs h K):kN Tryz.prog 69 vs h K KP:=by
 obtain⟨u,t,rfl,hK⟩:=hC
 refine jJ 7 [((some (.c1 (.ldn 3) (.t 2))),(.o1 (.ldn 3) (.t 2)))] (G:=(λ_ _ _ _ _=>False)) (λ_ _ _ _ _ h=>h.elim) Tryz.func69 ?_
 simp(disch:=first|omega|simp only[zz];try omega;done) only[↓reduceIte,go_sem,jM.enc]
 exact hK _ _ zT
def adP(vs:List Value)(h:H)(K:Value->H->Prop):Prop:= ∃(u:U) (b:Nat) (l:List jK) (c:jK),vs=[.map (some b),AJ c]/\wP ksC AJ h b (nJ l) l.length/\l.length<=4611686018427387904/\Rep.wf c/\
 (c∈l-> ∀u' h',jD S0 u h u' h'->K (.tuple #[Jx JT (wK l c),.bool false]) h')/\(c ∉ l-> ∀u' h',jD (λi=>i=b) u h u' h'->wP ksC AJ h' b (nJ (l++[c])) (l.length+1)->K (.tuple #[Jx JT l.length,.bool true]) h')
theorem aaB(hC:adP vs h K):kN Tryz.prog 70 vs h K KP:=by
 obtain⟨u,b,l,c,rfl,hm,hn,hw,h1,h2⟩:=hC
 refine jJ 16635 [(none,(.t 4)),(none,(.t 5))] (G:=(λ_ _ _ _ _=>False)) (λ_ _ _ _ _ h=>h.elim) Tryz.func70 ?_
 have sp:jD S0 u h _ _:=jD.qZ S0 u h #[Jx JT c.1,Jx JT c.2.1,str c.2.2] 108
 have X:jR (ub u h.size 0) (h.push (.cells #[Jx JT c.1,Jx JT c.2.1,str c.2.2] 108)) h.size [Jx JT c.1,Jx JT c.2.1,str c.2.2]:=(jR.mk zY zE zE (by repeat (first|(refine lU ?_;simp only[];done)|apply kG)) zE)
 have hmp:=hm.step sp (λh=>h)
 have hbl:=hm.lt
 simp(disch:=omega) only[↓reduceIte,go_sem,AJ]
 refine wm (enc:=AJ) (s:=c) AL (Gq hw) hmp ⟨jO,?_⟩
 by_cases hc:c∈l
 ·obtain⟨n,e⟩: ∃n,nJ l c=some n:=dC.1 (yo.2 hc)
  have e2:wK l c=n:=by unfold wK;rw[e];rfl
  rw[e]
  simp only[mr,bv,dM,bZ]
  simp(disch:=omega) only[↓reduceIte,go_sem,jN]
  rw[<-e2]
  exact h1 hc _ _ sp
 ·have e:nJ l c=none:=by unfold nJ;rw[af hc]
  rw[e]
  simp only[mr,bv,cZ,dR]
  simp(disch:=omega) only[↓reduceIte,go_sem,jN]
  refine wu hmp ⟨jO,?_⟩
  simp only[↓reduceIte,go_sem,jN]
  refine IQ (enc:=AJ) (s:=c) (ub u h.size 0) AL (Gq hw) hmp λh' st hm'=>⟨jO,?_⟩
  rw[e]at hm'
  simp only[cZ,aD,aW]at hm'
  have em:NI (nJ l) c (l.length:Int)=nJ (l++[c]):=by
   funext s;rw[ES hc];rfl
  rw[em]at hm'
  simp only[↓reduceIte,go_sem,jN]
  refine wu hm' ⟨jO,?_⟩
  simp(disch:=omega) only[↓reduceIte,go_sem,jN]
  have e3:((l.length+1:Nat):Int) - 1=l.length:=zO
  rw[e3]
  exact h2 hc _ h' ((sp.mono (S':=λi=>i=b) (λ_ _ h=>h.elim)).trans st (λ_ _ h=>h)) hm'
theorem Qa{l:List Int}(h:l.length=9)(hw: ∀x∈l,Rep.wf x):Ch ksK (zu l)=true:=by
 match l,h with
 |[a0,a1,a2,a3,a4,a5,a6,a7,a8],_=>
  have e:=λx hx=>Wo (hw x hx)
  simp only[aH,cO,or_false,forall_eq_or_imp,forall_eq]at e
  obtain⟨e0,e1,e2,e3,e4,e5,e6,e7,e8⟩:=e
  simp [Ch,ksK,zu,qm,HY,List.replicate,e0,e1,e2,e3,e4,e5,e6,e7,e8]
def adQ(vs:List Value)(h:H)(K:Value->H->Prop):Prop:= ∃(u:U) (b:Nat) (l:List (List Int)) (c:List Int),vs=[.map (some b),zu c]/\wP ksK zu h b (nJ l) l.length/\l.length<=4611686018427387904/\c.length=9/\(∀x∈c,Rep.wf x)/\
 (c∈l-> ∀u' h',jD S0 u h u' h'->K (.tuple #[Jx JT (wK l c),.bool false]) h')/\(c ∉ l-> ∀u' h',jD (λi=>i=b) u h u' h'->wP ksK zu h' b (nJ (l++[c])) (l.length+1)->K (.tuple #[Jx JT l.length,.bool true]) h')
theorem aaC(hC:adQ vs h K):kN Tryz.prog 72 vs h K KP:=by
 obtain⟨u,b,l,c,rfl,hm,hn,hl,hw,h1,h2⟩:=hC
 have hkey:=Qa hl hw
 obtain⟨a0,a1,a2,a3,a4,a5,a6,a7,a8,rfl⟩: ∃a0 a1 a2 a3 a4 a5 a6 a7 a8,c=[a0,a1,a2,a3,a4,a5,a6,a7,a8]:=by
  match c,hl with
  |[a0,a1,a2,a3,a4,a5,a6,a7,a8],_=>exact⟨_,_,_,_,_,_,_,_,_,rfl⟩
 obtain⟨c,hc0⟩:=kg ([a0,a1,a2,a3,a4,a5,a6,a7,a8])
 have henc:zu c= .agg #[Jx JT a0,Jx JT a1,Jx JT a2,Jx JT a3,Jx JT a4,Jx JT a5,Jx JT a6,Jx JT a7,Jx JT a8]:=by rw[hc0];rfl
 rw[<-hc0]at h1 h2 hkey
 rw[<-hc0]
 refine jJ 16635 [(none,(.t 4)),(none,(.t 5))] (G:=(λ_ _ _ _ _=>False)) (λ_ _ _ _ _ h=>h.elim) Tryz.func72 ?_
 have sp:jD S0 u h _ _:=jD.qZ S0 u h #[Jx JT a0,Jx JT a1,Jx JT a2,Jx JT a3,Jx JT a4,Jx JT a5,Jx JT a6,Jx JT a7,Jx JT a8] 154
 have hmp:=hm.step sp (λh=>h)
 have hbl:=hm.lt
 rw[henc]
 simp(disch:=omega) only[↓reduceIte,go_sem]
 rw[<-henc]
 refine wm (enc:=zu) (s:=c) SB hkey hmp ⟨jO,?_⟩
 by_cases hc:c∈l
 ·obtain⟨n,e⟩: ∃n,nJ l c=some n:=dC.1 (yo.2 hc)
  have e2:wK l c=n:=by unfold wK;rw[e];rfl
  rw[e]
  simp only[mr,bv,dM,bZ]
  simp(disch:=omega) only[↓reduceIte,go_sem,jN]
  rw[<-e2]
  exact h1 hc _ _ sp
 ·have e:nJ l c=none:=by unfold nJ;rw[af hc]
  rw[e]
  simp only[mr,bv,cZ,dR]
  simp(disch:=omega) only[↓reduceIte,go_sem,jN]
  refine wu hmp ⟨jO,?_⟩
  simp only[↓reduceIte,go_sem,jN]
  rw[<-henc]
  refine IQ (enc:=zu) (s:=c) (ub u h.size 0) SB hkey hmp λh' st hm'=>⟨jO,?_⟩
  rw[e]at hm'
  simp only[cZ,aD,aW]at hm'
  have em:NI (nJ l) c (l.length:Int)=nJ (l++[c]):=by
   funext s;rw[ES hc];rfl
  rw[em]at hm'
  simp only[↓reduceIte,go_sem,jN]
  refine wu hm' ⟨jO,?_⟩
  simp(disch:=omega) only[↓reduceIte,go_sem,jN]
  have e3:((l.length+1:Nat):Int) - 1=l.length:=zO
  rw[e3]
  exact h2 hc _ h' ((sp.mono (S':=λi=>i=b) (λ_ _ h=>h.elim)).trans st (λ_ _ h=>h)) hm'
end Go.Proofs.Z
namespace Edict
theorem Sz{c:jY}(h: ∀t∈oU c,kF (jF c.2) t=false):wJ c=none:=by
 unfold wJ;rw[dF];intro t ht;rw[h t ht];simp
theorem SA{c:jY}{i:Nat}{t:jM}(hi:(oU c)[i]? =some t)(hno: ∀s∈(oU c).take i,kF (jF c.2) s=false)(hb:kF (jF c.2) t=true):wJ c=some t:=by
 unfold wJ
 have key: ∀(l:List jM) (i:Nat),l[i]? =some t->(∀s∈l.take i,kF (jF c.2) s=false)->l.find? (kF (jF c.2))=some t:=by
  intro l
  induction l with
  |nil=>intro i h;simp at h
  |cons a l ih=>
   intro i h hn
   cases i with
   |zero=>simp only[bO,aQ]at h;subst h;simp [hb]
   |succ i=>
    have ha:kF (jF c.2) a=false:=hn a zP
    rw[fF (by simp [ha])]
    exact ih i (by simpa using h) (λs hs=>hn s (by simp [hs]))
 exact key _ i hi hno
end Edict
namespace Go.Ev
open Go
theorem agO{h:H}{b:Nat}{v0 v1 v2:Value}(hz:lS h b=3):lS (jW h b 0 [v0,v1,v2]) b=3/\Go.Ev.hv (jW h b 0 [v0,v1,v2]) b 0=v0/\Go.Ev.hv (jW h b 0 [v0,v1,v2]) b 1=v1/\Go.Ev.hv (jW h b 0 [v0,v1,v2]) b 2=v2:=by
 have hl:0+[v0,v1,v2].length<=lS h b:=by rw[hz];simp
 refine⟨by rw[jP,hz],?_,?_,?_⟩<;>(rw[ut _ _ _ _ _ hl];simp)
end Go.Ev
namespace Go.Proofs.Z
open Go Go.Ev Edict
def fV(f:BP):Value:= .agg #[Jx JT f.1,Jx JT f.2.1,Jx JT f.2.2]
def Ou(vs:List Value)(h:H)(K:Value->H->Prop):Prop:= ∃(u:U) (v:Value) (cs:List jY),vs=[.agg #[v]]/\jS u h v cs/\(∀c∈cs,Rep.bulk c<=1048576)/\ ∀u' h',jD S0 u h u' h'->K (fV (mF cs)) h'
def aaA:lq:=λf vs h K _=>(f=30/\YI kC vs h K)\/(f=65/\YH vs h K)\/(f=66/\AC (λls=>ls.flatMap tq) vs h K)\/(f=67/\ahI vs h K)
theorem Ov:lQ Tryz.prog aaA:=lY SF (lY Ws (lY VZ (pX adG)))
theorem Wn{vs:List Value}{h:H}{K:Value->H->Prop}{KP:List PanicEntry->H->Prop}(hC:Ou vs h K):kN Tryz.prog 25 vs h K KP:=by
 obtain⟨u,v,cs,rfl,hl,hbk,hK⟩:=hC
 obtain⟨la,lc,rfl,q1,q2⟩:=hl.sl
 have hm:=lC
 refine jJ 1099515837943 [((some (.c1 (.ldn 3) (.t 2))),(.o1 (.ldn 3) (.t 2)))] Ov Tryz.func25 ?_
 simp(disch:=first|omega|simp only[zz];try omega;done) only[↓reduceIte,go_sem]
 have sA:jD S0 u h (ub u h.size 0) (h.push (.cells #[.slice la cs.length lc] 24)):=jD.qZ S0 u h _ _
 have sB:jD S0 (ub u h.size 0) (h.push (.cells #[.slice la cs.length lc] 24)) (ub (ub u h.size 0) (h.size+1) 0) ((h.push (.cells #[.slice la cs.length lc] 24)).push (.cells #[Jx JT 0,Jx JT 0,Jx JT 0] 27)):=by
  have:=jD.qZ S0 (ub u h.size 0) (h.push (.cells #[.slice la cs.length lc] 24)) #[Jx JT 0,Jx JT 0,Jx JT 0] 27
  simpa only[kw]using this
 have X0:jR (ub (ub u h.size 0) (h.size+1) 0) ((h.push (.cells #[.slice la cs.length lc] 24)).push (.cells #[Jx JT 0,Jx JT 0,Jx JT 0] 27)) (h.size+1) [Jx JT 0,Jx JT 0,Jx JT 0]:=(jR.mk zY zE zE (by repeat (first|(refine lU ?_;simp only[];done)|apply kG)) zE)
 obtain⟨I,hI⟩:=kg (α:=Nat->ku->H->Prop) λi σ h'=>σ 2= .pointer (some ⟨h.size+1,0,none⟩)/\σ 10= .slice la cs.length lc/\σ 11= Jx JT cs.length/\σ 12= Jx JT i/\i<=cs.length/\
  ∃u',jD S0 u h u' h'/\jR u' h' (h.size+1) [Jx JT 0,Jx JT 0,Jx JT 0]/\mF cs=mF (cs.drop i)
 refine jE I (λi=>cs.length - i) 0 (by
  rw[hI]
  exact⟨zJ,zJ,zJ,zJ,aj _,_,sA.tZ sB,X0,rfl⟩) ?_
 clear X0 sA sB
 intro i σ h' hy
 rw[hI]at hy
 obtain⟨e2,e10,e11,e12,hi,u',st,X,heq⟩:=hy
 by_cases hlt:i<cs.length
 ·obtain⟨c,hs⟩:=qP hlt
  have hdr:cs.drop i=c::cs.drop (i+1):=by
   obtain⟨hi',rfl⟩:=aB.1 hs
   exact aN hi'
  have hcb:Rep.bulk c<=1048576:=hbk c (aF hs)
  obtain⟨pb,po,rfl,hpb,hpu,hpz,hpr⟩:=(hl.mono st.ge).row i c hs
  have hprs:=hpr
  rw[lH]at hpr
  obtain⟨va,vb,hpr,hh,hb⟩:=hpr
  obtain⟨ha,hc,rfl,-,-⟩:=hh.sl
  obtain⟨ba,bc,rfl,-,-⟩:=hb.sl
  have hcells:=hpr
  simp only[nH,mQ,ax,aC]at hpr hpu hpz
  obtain⟨p0,p1,p2,p3⟩:=hpr
  have sp:=jD.qZ S0 u' h' #[str c.1.1,.slice ha c.1.2.1.length hc,Jx JT c.1.2.2,.slice ba c.2.length bc] 54
  have Y:jR (ub u' h'.size 0) (h'.push (.cells #[str c.1.1,.slice ha c.1.2.1.length hc,Jx JT c.1.2.2,.slice ba c.2.length bc] 54)) h'.size [str c.1.1,.slice ha c.1.2.1.length hc,Jx JT c.1.2.2,.slice ba c.2.length bc]:=(jR.mk zY zE zE (by repeat (first|(refine lU ?_;simp only[];done)|apply kG)) zE)
  have Xp:=X.sZ sp
  simp(disch:=omega) only[↓reduceIte,go_sem,e10,e11,e12,hlt,p0,p1,p2,p3]
  rw[show qV h' pb (po+i*Rep.sz jY) (Rep.sz jY)=[str c.1.1,.slice ha c.1.2.1.length hc,Jx JT c.1.2.2,.slice ba c.2.length bc]from hcells]at hprs
  obtain⟨hb1,hb2,hb3⟩:=tC hcb
  obtain⟨-,-,hb4⟩:=FN hcb
  have hTl:(kC c).length<=4194304:=by unfold kC;rw[ay];omega
  refine jC (.inl ⟨rfl,ub u' h'.size 0,c,_,rfl,Rep.mono sp.ge hprs,hcb,λu1 h1 w s1 hw=>⟨jO,?_⟩⟩)
  simp only[↓reduceIte,go_sem,jN]
  refine jC (.inr (.inl ⟨rfl,u1,w,kC c,rfl,hw,hTl,λu2 h2 s2=>⟨jO,?_⟩⟩))
  have Y2:=(Y.sZ s1).sZ s2
  have X2:=(Xp.sZ s1).sZ s2
  have st2:=((st.tZ sp).tZ s1).tZ s2
  have hy2:=Y2.1
  have Uc:=X2.1
  have hB:mF (c::cs.drop (i+1))=if lh c=(0,0,0)then mF (cs.drop (i+1))else lh c:=rfl
  rw[hdr,hB]at heq
  cases hcr:qM [] (kC c)with
  |some t=>
   have hbc:lh c=(32,0,t.2.2.2):=by unfold lh;rw[hcr]
   rw[hbc,af zP]at heq
   simp only[bZ,dM,jM.enc]
   simp(disch:=omega) only[↓reduceIte,go_sem,e2,X2.2.1,X2.2.2.1]
   obtain⟨z0,z1,z2,z3⟩:=agO (v0:= Jx JT 32) (v1:= Jx JT 0) (v2:= Jx JT t.2.2.2) X2.2.1
   have hXl:h.size+1<(jW h2 (h.size+1) 0 [Jx JT 32,Jx JT 0,Jx JT t.2.2.2]).size:=by rw[lI];exact Uc
   rw[zK hXl,uO hXl,uO hXl,uO hXl,z0,z1,z2,z3]
   refine⟨ak _,?_⟩
   have sw:=jD.rZ (b:=h.size+1) (o:=0) (l:=[Jx JT 32,Jx JT 0,Jx JT t.2.2.2]) st2 (.inl (fG _)) (by rw[X2.2.2.2.1];exact ak _) (by rw[X2.2.1];simp)
   have:=hK _ _ (sw.tZ (jD.qZ S0 _ _ #[Jx JT t.1,Jx JT t.2.1,str t.2.2.1,Jx JT t.2.2.2] 74))
   rw[heq]at this
   exact this
  |none=>
   simp only[dR,cZ,jM.enc,JP]
   simp(disch:=first|omega|simp only[zz];try omega;done) only[↓reduceIte,go_sem,Y2.at,Y2.2.1]
   have spA:=jD.qZ S0 u2 h2 #[Jx JT 0,Jx JT 0,str [],Jx JT 0] 74
   have o1:=ui (α:=jM) (h2.size+1) (ub u2 h2.size 0) (h2.push (.cells #[Jx JT 0,Jx JT 0,str [],Jx JT 0] 74)) zY 74
   have spB:=jD.qZ S0 (ub u2 h2.size 0) (h2.push (.cells #[Jx JT 0,Jx JT 0,str [],Jx JT 0] 74)) #[] 74
   have YB:=(Y2.sZ spA).sZ spB
   have XB:=(X2.sZ spA).sZ spB
   simp only[kw]at o1 spB YB XB
   have s02:=(sp.tZ s1).tZ s2
   have sB:=(s02.tZ spA).tZ spB
   have stB:=(st2.tZ spA).tZ spB
   refine lV (k:=h2.size+1) o1 (hh.mono sB.ge) rfl rfl zY (by simp only[aA];omega) λa n k u3 h3 ho3 s3=> ?_
   have hg3: ∀j,jL (.slice (some ⟨h2.size+1,0,none⟩) 0 0) j->h2.size+1<=j:=λj hj=>o1.ge hj
   have Y3:=YB.step s3 (λhj=>by have:=hg3 _ hj;omega)
   have X3:=XB.step s3 (λhj=>by have:=hg3 _ hj;omega)
   have s3':=sB.trans s3 (λj hj hB=>by have:=hg3 j hB;have:=s02.ge.sz;omega)
   have st3:jD S0 u h u3 h3:=stB.trans s3 (λj hj hB=>by have:=hg3 j hB;have:=st2.ge.sz;omega)
   refine⟨by simp(disch:=first|omega|simp only[zz];try omega;done) only[↓reduceIte,go_sem,YB.at,Y3.at,Y3.2.1],?_⟩
   simp only[↓reduceIte,go_sem]
   refine jC (.inr (.inr (.inl ⟨rfl,u3,_,c.2,rfl,hb.mono s3'.ge,hb1,λu4 h4 w s4 hw=>⟨jO,?_⟩⟩)))
   have ho4:=ho3.sZ s4
   have hz3:=s3.ge.sz
   have hz4:=s4.ge.sz
   simp only[kw]at hz3
   simp only[↓reduceIte,go_sem,jN]
   refine lV ho4 hw rfl rfl zO (by simp only[aJ];omega) λa5 n5 k5 u5 h5 ho5 s5=>⟨jO,?_⟩
   have hg5: ∀j,jL (.slice a n k) j->h2.size+1<=j:=λj hj=>ho4.ge hj
   have Y5:=(Y3.sZ s4).step s5 (λhj=>by have:=hg5 _ hj;omega)
   have X5:=(X3.sZ s4).step s5 (λhj=>by have:=hg5 _ hj;omega)
   have s5':=(s3'.tZ s4).trans s5 (λj hj hB=>by have:=hg5 j hB;have:=s02.ge.sz;omega)
   have st5:jD S0 u h u5 h5:=(st3.tZ s4).trans s5 (λj hj hB=>by have:=hg5 j hB;have:=st2.ge.sz;omega)
   simp only[aJ]at ho5
   simp(disch:=first|omega|simp only[zz];try omega;done) only[↓reduceIte,go_sem,Y5.at,Y5.2.1]
   have hal:(oU c).length<=4194304:=by unfold oU;rw[ay];omega
   refine jC (.inr (.inr (.inr ⟨rfl,u5,_,_,oU c,c.2,rfl,ho5.iZ,hb.mono s5'.ge,hb1,hal,λu6 h6 s6=>⟨jO,?_⟩⟩)))
   have X6:=X5.sZ s6
   have hx6:=X6.1
   have st6:=st5.tZ s6
   have hts:=ho5.iZ.mono s6.ge
   rcases FM (jF c.2) (oU c)with hno|⟨j,t,hj,hno,hlb⟩
   ·have e:=AA (k:=0) hno
    have hbc:lh c=(0,0,0):=by unfold lh;rw[hcr,Sz hno]
    rw[hbc,ah rfl]at heq
    simp(disch:=omega) only[↓reduceIte,go_sem,e.1,e12]
    refine⟨i+1,?_,zO⟩
    rw[hI]
    exact⟨by simp [jI,e2],by simp [jI,e10],by simp [jI,e11],zJ,hlt,u6,st6,X6,heq⟩
   ·have e:=AB (k:=0) hno hj hlb
    have hbc:lh c=(33,0,t.2.2.2):=by unfold lh;rw[hcr,SA hj hno hlb]
    rw[hbc,af zP]at heq
    have e1:yS (jF c.2) (oU c) 0=(j:Int):=by rw[e.1];omega
    obtain⟨tb,to,rfl,htb,htu,htz,htr⟩:=hts.row j t hj
    obtain⟨ta,tc,hta,-,-⟩:=hts.sl
    obtain⟨-,rfl,-⟩:=Value.slice.inj hta
    rw[ko]at htr
    simp only[jM.enc,lG,mQ,ax,aC]at htr htu htz
    obtain⟨t0,t1,t2,t3⟩:=htr
    have hil:=(aB.1 hj).1
    simp(disch:=omega) only[↓reduceIte,go_sem,e1,t3,e2,X6.2.1,X6.2.2.1]
    obtain⟨z0,z1,z2,z3⟩:=agO (v0:= Jx JT 33) (v1:= Jx JT 0) (v2:= Jx JT t.2.2.2) X6.2.1
    rw[z0,z1,z2,z3]
    refine⟨by unfold oU at hil;rw[ay]at hil;exact hil,ak _,?_⟩
    have:=hK _ _ (jD.rZ (b:=h.size+1) (o:=0) (l:=[Jx JT 33,Jx JT 0,Jx JT t.2.2.2]) st6 (.inl (fG _)) (by rw[X6.2.2.2.1];exact ak _) (by rw[X6.2.1];simp))
    rw[heq]at this
    exact this
 ·obtain rfl:i=cs.length:=zO
  rw[bB]at heq
  have heq:mF cs=(0,0,0):=heq
  simp only[↓reduceIte,go_sem,e2,e11,e12,X.2.1,X.2.2.1]
  obtain⟨z0,z1,z2,z3⟩:=agO (v0:= Jx JT 0) (v1:= Jx JT 0) (v2:= Jx JT 0) X.2.1
  rw[z0,z1,z2,z3]
  refine⟨ak _,?_⟩
  have:=hK _ _ (jD.rZ (b:=h.size+1) (o:=0) (l:=[Jx JT 0,Jx JT 0,Jx JT 0]) st (.inl (fG _)) (by rw[X.2.2.2.1];exact ak _) (by rw[X.2.1];simp))
  rw[heq]at this
  exact this
end Go.Proofs.Z
namespace Edict
theorem adw{ps:List kK}{s:Sw}(h:s∈ps.map (·.1)): ∃(i:Nat) (n:Int),lW ps s=i/\ps[i]? =some (s,n)/\oQ ps s=some n/\i<ps.length:=by
 have hi:=dL h
 have hg:(ps.map (·.1))[(ps.map (·.1)).idxOf s]? =some s:=by rw[bf hi,gB hi]
 have hno:s ∉ (ps.map (·.1)).take ((ps.map (·.1)).idxOf s):=by
  intro hm
  have e:ps.map (·.1)=(ps.map (·.1)).take ((ps.map (·.1)).idxOf s)++(ps.map (·.1)).drop ((ps.map (·.1)).idxOf s):=(bV _ _).symm
  have h2:=bA (List.idxOf s) e
  rw[gK,ah hm]at h2
  have h3:=dL hm
  rw[aR]at h3
  omega
 rw[bL]at hg
 cases hx:ps[(ps.map (·.1)).idxOf s]? with
 |none=>rw[hx]at hg;cases hg
 |some x=>
  rw[hx]at hg
  obtain⟨x1,x2⟩:=x
  simp only[bn,aQ]at hg
  subst hg
  exact⟨_,x2,yg hno (by rw[bL,hx];rfl),hx,Js hno hx,(aB.1 hx).1⟩
end Edict
namespace Go.Proofs.Z
open Go Go.Ev Edict
variable {vs:List Value} {h:H} {K:Value->H->Prop} {KP:List PanicEntry->H->Prop}
def Rz(vs:List Value)(h:H)(K:Value->H->Prop):Prop:= ∃(u:U) (w:Value) (L:List yj),vs=[.slice none 0 0,w]/\jS u h w L/\L.length<=1000000/\
 ∀u' h' w',jD S0 u h u' h'->jS u' h' w' (sP [] L).1->K (.tuple #[w',fV (sP [] L).2]) h'
def aad:lq:=λf vs h K _=>f=77/\Jm vs h K
theorem Ob:lQ Tryz.prog aad:=by
 rintro f vs h K KP ⟨rfl,hC⟩;exact BC hC
theorem VK(hC:Rz vs h K):kN Tryz.prog 36 vs h K KP:=by
 obtain⟨u,w,L,rfl,hl,hL,hK⟩:=hC
 obtain⟨la,lc,rfl,q1,q2⟩:=hl.sl
 have hm:=lC
 refine jJ 10134198673277939 [(none,(.t 4)),((some (.c1 (.ldn 3) (.t 5))),(.o1 (.ldn 3) (.t 5)))] Ob Tryz.func36 ?_ (by kernel_rfl) (by apply c0 rfl;repeat' first|apply cS|apply cK|apply cL|apply cX|(apply cC zD)|(conv=>lhs;cbv;try simp only[Kw]))
 simp only[↓reduceIte,go_sem]
 have s1:=jD.qZ S0 u h #[Jx JT 0,Jx JT 0,Jx JT 0] 27
 have B1:=jR.newc (u:=u) (h:=h) [Jx JT 0,Jx JT 0,Jx JT 0] 27
 obtain⟨u1,hu1⟩:=kg (ub u h.size 0)
 obtain⟨h1,hh1⟩:=kg (h.push (.cells #[Jx JT 0,Jx JT 0,Jx JT 0] 27))
 have hz1:h1.size=h.size+1:=by rw[hh1];simp only[kw]
 have B1:jR u1 h1 h.size [Jx JT 0,Jx JT 0,Jx JT 0]:=by rw[hu1,hh1];exact B1
 rw[<-hu1,<-hh1]at s1
 rw[<-hh1]
 have o1:=ui (α:=kK) (h.size+1) u1 h1 zO 152
 have spA:=jD.qZ S0 u1 h1 #[] 152
 have BA:=B1.sZ spA
 have stA:=s1.tZ spA
 rw[hz1]at o1 spA stA BA
 refine lV (k:=h.size+1) o1 (jS.nil (α:=kK) _ _) rfl rfl zY (by simp only[aA];omega) λa n k u3 h3 ho3 s3=>⟨jO,?_⟩
 have st3:=stA.own s3 λj hj=>by have:=o1.ge hj;omega
 have B3:=BA.step s3 λhj=>by have:=o1.ge hj;omega
 have hz3:=s3.ge.sz
 simp only[kw]at hz3
 rw[bG]at ho3
 simp only[↓reduceIte,go_sem,jN]
 obtain⟨I,hI⟩:=kg (α:=Nat->ku->H->Prop) λi σ h'=>σ 1= .slice la L.length lc/\σ 5= .pointer (some ⟨h.size,0,none⟩)/\σ 7= Jx JT i/\i<=L.length/\ ∃u' P,jD S0 u h u' h'/\jR u' h' h.size [Jx JT 0,Jx JT 0,Jx JT 0]/\h.size+1<=h'.size/\lm (h.size+1) u' h' (σ 6) P/\P.length<=128/\sP [] L=sP P (L.drop i)
 refine jE I (λi=>L.length - i) 0 (by rw[hI];exact⟨zJ,zJ,zJ,aj _,u3,([]:List kK),st3,B3,zO,by simpa [jI]using ho3,aj _,rfl⟩) ?_
 clear st3 B3 hz3 ho3 s3 stA BA spA o1
 intro i σ h' hy
 rw[hI]at hy
 obtain⟨e1,e5,e7,hi,u',P,st,B,hz,ho,hPl,heq⟩:=hy
 by_cases hlt:i<L.length
 ·obtain⟨⟨x,k⟩,hs⟩: ∃x,L[i]? =some x:=⟨L[i],by simp [hlt]⟩
  have hdr:L.drop i=(x,k)::L.drop (i+1):=by
   obtain⟨hi',e⟩:=aB.1 hs
   rw[<-e];exact aN hi'
  rw[hdr,DT]at heq
  obtain⟨pb,po,rfl,hpb,hpu,hpz,hpr⟩:=(hl.mono st.ge).row i (x,k) hs
  rw[yf]at hpr
  obtain⟨va,hpr,hh⟩:=hpr
  obtain⟨ha,hc,rfl,qh1,qh2⟩:=hh.sl
  simp only[RH,mQ,ax,aC]at hpr hpu hpz
  obtain⟨p0,p1,p2,p3⟩:=hpr
  have bl:=B.1
  have spX:=jD.qZ S0 u' h' #[str x.1,.slice ha x.2.1.length hc,Jx JT x.2.2] 51
  have X:=jR.newc (u:=u') (h:=h') [str x.1,.slice ha x.2.1.length hc,Jx JT x.2.2] 51
  have stX:=st.tZ spX
  have BX:=B.sZ spX
  have hoX:=ho.sZ spX
  obtain⟨sa,sc,hσ6,hs1,hs2⟩:=ho.sl
  rw[hσ6]at hoX
  simp(disch:=omega) only[↓reduceIte,go_sem,e1,e7,hlt,p0,p1,p2,hσ6]
  refine jC ⟨rfl,ub u' h'.size 0,_,P,x.1,rfl,hoX.iZ,zE,?_⟩
  obtain⟨hX,hhX⟩:=kg (h'.push (.cells #[str x.1,.slice ha x.2.1.length hc,Jx JT x.2.2] 51))
  have hzX:hX.size=h'.size+1:=by rw[hhX];simp only[kw]
  rw[<-hhX]at spX stX BX hoX ⊢
  have X:jR (ub u' h'.size 0) hX h'.size [str x.1,.slice ha x.2.1.length hc,Jx JT x.2.2]:=by rw[hhX];exact X
  have xl:=X.1
  have bxl:=BX.1
  obtain⟨pb',po',hpe,hpb,hpu,hpz,hpr⟩:=(hl.mono stX.ge).row i (x,k) hs
  simp only[aQ,Addr.mk.injEq,aC]at hpe
  obtain⟨rfl,rfl⟩:=hpe
  rw[yf]at hpr
  obtain⟨va',hpr,hh'⟩:=hpr
  simp only[RH,mQ,ax,aC]at hpr hpu hpz
  obtain⟨g0,g1,g2,g3⟩:=hpr
  by_cases hmem:x.1∈P.map (·.1)
  ·obtain⟨j,m,hj1,hj2,hj3,hj4⟩:=adw hmem
   rw[hj3]at heq
   simp only at heq
   obtain⟨rb,ro,hre,hrb,hru,hrz,hrr⟩:=hoX.iZ.row j (x.1,m) hj2
   subst hre
   simp only[Ak,NQ,CP,ax,aC]at hrr hru hrz
   obtain⟨r0,r1⟩:=hrr
   have hjn: ¬((j:Int)<0):=zO
   have hjg:(j:Int)≥0:=zO
   by_cases hm2:m=(x.2.1.length:Int)
   ·rw[ah hm2]at heq
    simp(disch:=first|omega|simp only[zz];try omega;done) only[↓reduceIte,go_sem,e7,hσ6,hj1,X.at,X.2.1,hj4,r1,hm2]
    refine⟨i+1,?_,zO⟩
    rw[hI]
    exact⟨by simp [jI,e1],by simp [jI,e5],zJ,hlt,_,P,stX,BX,zO,by simpa [jI,hσ6]using hoX,hPl,heq⟩
   ·rw[af hm2]at heq
    have b9:=BX.sets (l:=[Jx JT 30,Jx JT k,Jx JT x.2.2]) rfl
    have s9:=jD.rZ (l:=[Jx JT 30,Jx JT k,Jx JT x.2.2]) (o:=0) stX (.inl (ak _)) (by rw[BX.2.2.2.1];exact ak _) (by rw[BX.2.1];exact ak _)
    have hK':=hK _ _ (.slice none 0 0) s9 (by rw[heq];exact jS.nil _ _)
    rw[heq]at hK'
    simp(disch:=first|omega|simp only[zz];try omega;done) only[↓reduceIte,go_sem,e1,e5,e7,hσ6,hj1,X.at,X.2.1,hj4,hlt,r1,ae hm2,g3,BX.2.1,BX.2.2.1,b9.at,b9.2.1]
    exact hK'
  ·have hpn:lW P x.1= -1:=Jr hmem
   rw[BI.2 hmem]at heq
   simp only at heq
   by_cases h128:128<=P.length
   ·rw[ah h128]at heq
    have hi128:(128:Int)<=P.length:=zO
    have b9:=BX.sets (l:=[Jx JT 31,Jx JT k,Jx JT x.2.2]) rfl
    have s9:=jD.rZ (l:=[Jx JT 31,Jx JT k,Jx JT x.2.2]) (o:=0) stX (.inl (ak _)) (by rw[BX.2.2.2.1];exact ak _) (by rw[BX.2.1];exact ak _)
    have hK':=hK _ _ (.slice none 0 0) s9 (by rw[heq];exact jS.nil _ _)
    rw[heq]at hK'
    simp(disch:=first|omega|simp only[zz];try omega;done) only[↓reduceIte,go_sem,e1,e5,e7,hpn,hσ6,X.at,X.2.1,ai hi128,hlt,g3,BX.2.1,BX.2.2.1,b9.at,b9.2.1]
    exact hK'
   ·rw[af h128]at heq
    have hi128: ¬(128:Int)<=P.length:=zO
    have hx:Rep.rep (ub u' h'.size 0) hX ((x.1,(x.2.1.length:Int)):kK) [str x.1,Jx JT x.2.1.length]:=by rw[Ak]
    simp(disch:=first|omega|simp only[zz];try omega;done) only[↓reduceIte,go_sem,hpn,hσ6,X.at,X.2.1,ae hi128]
    refine lM (e':=152) (cs:=[str x.1,Jx JT x.2.1.length]) hoX hx rfl rfl zO zO λa n c9 u9 h9 ho9 s9=>⟨jO,?_⟩
    have st9:=stX.own s9 λj hj=>by have:=hoX.ge hj;omega
    have B9:=BX.step s9 λhj=>by have:=hoX.ge hj;omega
    have hz9:=s9.ge.sz
    simp(disch:=omega) only[↓reduceIte,go_sem,e7]
    refine⟨i+1,?_,zO⟩
    rw[hI]
    exact⟨by simp [jI,e1],by simp [jI,e5],zJ,hlt,u9,P++[(x.1,(x.2.1.length:Int))],st9,B9,zO,by simpa [jI]using ho9,by rw[ay,aZ];omega,heq⟩
 ·obtain rfl:i=L.length:=zO
  rw[bB]at heq
  have bl:=B.1
  have b9:=B.sets (l:=[Jx JT 0,Jx JT 0,Jx JT 0]) rfl
  have s9:=jD.rZ (l:=[Jx JT 0,Jx JT 0,Jx JT 0]) (o:=0) st (.inl (ak _)) (by rw[B.2.2.2.1];exact ak _) (by rw[B.2.1];exact ak _)
  have sw:=B.stepSets (l:=[Jx JT 0,Jx JT 0,Jx JT 0]) rfl
  have hP:sP P []=(P,0,0,0):=rfl
  rw[hP]at heq
  have hK':=hK _ _ (σ 6) s9 (by rw[heq];exact ho.iZ.mono sw.ge)
  rw[heq]at hK'
  simp(disch:=first|omega|simp only[zz];try omega;done) only[↓reduceIte,go_sem,e1,e5,e7,B.2.1,B.2.2.1,b9.at,b9.2.1]
  exact hK'
def Yr(vs:List Value)(h:H)(K:Value->H->Prop):Prop:= ∃(u:U) (v w:Value) (c:jY),vs=[v,w]/\jS u h v c.1.2.1/\jS u h w c.2/\Rep.bulk c<=1048576/\(kC c).length<=136/\(∀x∈c.2,FL x)/\
 ∀u' h',jD S0 u h u' h'->K (.tuple #[fV (lh c),.bool (decide (lh c≠(0,0,0)))]) h'
def KN:lq:=λf vs h K _=>(f=78/\RD vs h K)\/(f=79/\RA vs h K)
theorem EM:lQ Tryz.prog KN:=lY VN (pX RB)
theorem Jj(hC:Yr vs h K):kN Tryz.prog 37 vs h K KP:=by
 obtain⟨u,v,w,c,rfl,hh,hb,hbk,Ub,Uc,hK⟩:=hC
 obtain⟨ha,hc,rfl,q1,q2⟩:=hh.sl
 obtain⟨ba,bc,rfl,q3,q4⟩:=hb.sl
 have hm:=lC
 refine jJ 16793843 [((some (.c1 (.ldn 3) (.t 4))),(.o1 (.ldn 3) (.t 4))),(none,(.t 5))] EM Tryz.func37 ?_
 simp only[↓reduceIte,go_sem]
 have s1:=jD.qZ S0 u h #[Jx JT 0,Jx JT 0,Jx JT 0] 27
 have B1:=jR.newc (u:=u) (h:=h) [Jx JT 0,Jx JT 0,Jx JT 0] 27
 refine jC (.inl ⟨rfl,ub u h.size 0,_,_,c,rfl,hh.mono s1.ge,hb.mono s1.ge,Ub,Uc,λu2 h2 t b s2 hcr=>⟨jO,?_⟩⟩)
 have st2:=s1.tZ s2
 have B2:=B1.sZ s2
 have b2l:=B2.1
 have s3:=jD.qZ S0 u2 h2 #[Jx JT t.1,Jx JT t.2.1,str t.2.2.1,Jx JT t.2.2.2] 74
 have X3:=jR.newc (u:=u2) (h:=h2) [Jx JT t.1,Jx JT t.2.1,str t.2.2.1,Jx JT t.2.2.2] 74
 have st3:=st2.tZ s3
 have B3:=B2.sZ s3
 cases b with
 |true=>
  rw[ah rfl]at hcr
  have hbc:lh c=(32,0,t.2.2.2):=by unfold lh;rw[hcr]
  have sw:=B2.stepSets (l:=[Jx JT 32,Jx JT 0,Jx JT t.2.2.2]) rfl
  have b8:=B2.sets (l:=[Jx JT 32,Jx JT 0,Jx JT t.2.2.2]) rfl
  have sp9:=jD.qZ S0 u2 (jW h2 h.size 0 [Jx JT 32,Jx JT 0,Jx JT t.2.2.2]) #[Jx JT t.1,Jx JT t.2.1,str t.2.2.1,Jx JT t.2.2.2] 74
  have b8l:=b8.1
  have hK':=hK _ _ ((st2.own sw λj e=>by have e:j=h.size:=e;omega).tZ sp9)
  rw[hbc,bq zP]at hK'
  simp(disch:=first|omega|simp only[zz];try omega;done) only[↓reduceIte,go_sem,jM.enc,B2.2.1,B2.2.2.1,b8.2.1,b8.at]
  exact hK'
 |false=>
  rw[af zP]at hcr
  simp(disch:=omega) only[↓reduceIte,go_sem,jM.enc]
  refine jC (.inr ⟨rfl,_,_,_,c,rfl,hh.mono st3.ge,hb.mono st3.ge,hbk,λu4 h4 t4 b4 s4 hlo=>⟨jO,?_⟩⟩)
  have X4:=X3.sZ s4
  have B4:=B3.sZ s4
  have st4:=st3.tZ s4
  have x4l:=X4.1
  have b4l:=B4.1
  have sx:=X4.stepSets (l:=[Jx JT t4.1,Jx JT t4.2.1,str t4.2.2.1,Jx JT t4.2.2.2]) rfl
  have X5:=X4.sets (l:=[Jx JT t4.1,Jx JT t4.2.1,str t4.2.2.1,Jx JT t4.2.2.2]) rfl
  have B5:=B4.step sx λe=>by have e:h.size=h2.size:=e;omega
  have st5:=st4.own sx λj e=>by have e:j=h2.size:=e;have:=st2.ge.sz;omega
  obtain⟨h5,hh5⟩:=kg (jW h4 h2.size 0 [Jx JT t4.1,Jx JT t4.2.1,str t4.2.2.1,Jx JT t4.2.2.2])
  rw[<-hh5]at sx X5 B5 st5
  have b5l:=B5.1
  have x5l:=X5.1
  cases b4 with
  |true=>
   rw[ah rfl]at hlo
   have hbc:lh c=(33,0,t4.2.2.2):=by unfold lh;rw[hcr,hlo]
   have sw:=B5.stepSets (l:=[Jx JT 33,Jx JT 0,Jx JT t4.2.2.2]) rfl
   have b9:=B5.sets (l:=[Jx JT 33,Jx JT 0,Jx JT t4.2.2.2]) rfl
   have hK':=hK _ _ (st5.own sw λj e=>by have e:j=h.size:=e;omega)
   rw[hbc,bq zP]at hK'
   simp(disch:=first|omega|simp only[zz];try omega;done) only[↓reduceIte,go_sem,jM.enc,X4.2.1,X4.2.2.1,<-hh5,X5.at,X5.2.1,B5.2.1,B5.2.2.1,b9.at,b9.2.1]
   exact hK'
  |false=>
   rw[af zP]at hlo
   have hbc:lh c=(0,0,0):=by unfold lh;rw[hcr,hlo]
   have sw:=B5.stepSets (l:=[Jx JT 0,Jx JT 0,Jx JT 0]) rfl
   have b9:=B5.sets (l:=[Jx JT 0,Jx JT 0,Jx JT 0]) rfl
   have hK':=hK _ _ (st5.own sw λj e=>by have e:j=h.size:=e;omega)
   rw[hbc,aI zP]at hK'
   simp(disch:=first|omega|simp only[zz];try omega;done) only[↓reduceIte,go_sem,jM.enc,X4.2.1,X4.2.2.1,<-hh5,B5.2.1,B5.2.2.1,b9.at,b9.2.1]
   exact hK'
end Go.Proofs.Z
namespace Go.Ev
open Go Rep
variable {a:Option Addr} {c:Nat} {h:H} {k n:Nat} {u:U}
theorem adt(m:Nat)(a:Option Addr)(n c:Nat)(k:IntKind)(i:Int):v2 (.cutLo m) (.slice a n c) (.int k i) h= .slice (if c=i.toNat then a else a.map (·.add (i.toNat*m))) (n - i.toNat) (c - i.toNat):=(rfl)
theorem VH{α:Type} [Rep α]{l:List α}(hs:jS u h (.slice a n c) l)(hk:k<=l.length):jS u h (.slice a k c) (l.take k):=by
 obtain⟨a',n',c',h1,h2,h3,h4,h5,h6⟩:=hs
 simp only[Value.slice.injEq]at h1
 obtain⟨rfl,rfl,rfl⟩:=h1
 have hl:(l.take k).length=k:=by rw[aR];omega
 refine⟨a,k,c,rfl,hl.symm,zO,h4,h5,λhne=> ?_⟩
 have hne':l≠[]:=λe=>hne (by rw[e];simp)
 obtain⟨b,o,e,hb,hu,hz,hr⟩:=h6 hne'
 have:=bU (Rep.sz α) hk
 refine⟨b,o,e,hb,by rw[hl];omega,by rw[hl];omega,λi x hx=>hr i x ?_⟩
 rw[dE]at hx
 split at hx
 ·exact hx
 ·cases hx
theorem VI{α:Type} [Rep α]{l:List α}(hs:jS u h (.slice a n c) l)(hk:k<l.length)(m:Nat)(hm:m=sz α):jS u h (.slice (if c=k then a else a.map (·.add (k*m))) (n - k) (c - k)) (l.drop k):=by
 obtain⟨a',n',c',h1,h2,h3,h4,h5,h6⟩:=hs
 simp only[Value.slice.injEq]at h1
 obtain⟨rfl,rfl,rfl⟩:=h1
 subst hm
 rw[af zO]
 have hne':l≠[]:=λe=>by rw[e]at hk;simp at hk
 obtain⟨b,o,e,hb,hu,hz,hr⟩:=h6 hne'
 subst e
 have hl:(l.drop k).length=l.length - k:=bY
 have hmul:k*sz α+(l.length - k)*sz α=l.length*sz α:=by rw[<-dJ];congr 1;omega
 refine⟨_,_,_,rfl,zO,zO,zO,(λh=>by cases h),λ_=>⟨b,o+k*sz α,by simp [Addr.add],hb,by rw[hl];omega,by rw[hl];omega,λi x hx=> ?_⟩⟩
 rw[dP]at hx
 have:=hr (k+i) x hx
 rw[dJ,<-ig]at this
 exact this
end Go.Ev
namespace Go.Proofs.Z
open Go Go.Ev Edict
variable {a b:List nV} {i j:Nat} {lt:nV->nV->Bool}
theorem Yq{a b:Int}(h:0<=a):a.tdiv b=a / b:=fe h
def adu(l:List nV):Prop:= ∀x∈l,x.1.2.2.1.length<=9223372036854775807
def Rw(vs:List Value)(h:H)(K:Value->H->Prop):Prop:= ∃(u:U) (v w:Value) (k:Bool) (a b:List nV),vs=[v,w,.bool k]/\jS u h v a/\jS u h w b/\adu a/\a.length+b.length<=1000000/\ ∀u' h' r,jD S0 u h u' h'->jS u' h' r (mJ (DX k) a b)->K r h'
def wD:lq:=λf vs h K _=>f=133/\RO vs h K
theorem KM:lQ Tryz.prog wD:=by
 rintro f vs h K KP ⟨rfl,hC⟩;exact RP hC
theorem VJ{x:nV}(hx:a[i]? =some x)(h: ∀y,b[j]? =some y->lt x y=true):mJ lt (a.drop i) (b.drop j)=x::mJ lt (a.drop (i+1)) (b.drop j):=by
 obtain⟨hi,e⟩:=aB.1 hx
 have ha:a.drop i=x::a.drop (i+1):=by rw[<-e];exact aN hi
 rw[ha]
 by_cases hj:j<b.length
 ·have hb:b.drop j=b[j]::b.drop (j+1):=aN hj
  rw[hb,mJ,ah (h _ (by simp [hj]))]
 ·have hb0:b.drop j=[]:=fu.2 zO
  rw[hb0,JA,JA]
theorem Rx{y:nV}(hy:b[j]? =some y)(h: ∀x,a[i]? =some x->lt x y=false):mJ lt (a.drop i) (b.drop j)=y::mJ lt (a.drop i) (b.drop (j+1)):=by
 obtain⟨hj,e⟩:=aB.1 hy
 have hb:b.drop j=y::b.drop (j+1):=by rw[<-e];exact aN hj
 rw[hb]
 by_cases hi:i<a.length
 ·have ha:a.drop i=a[i]::a.drop (i+1):=aN hi
  rw[ha,mJ,af (by rw[h _ (by simp [hi])];simp)]
 ·have ha0:a.drop i=[]:=fu.2 zO
  rw[ha0,mJ,mJ]
theorem Ry{vs:List Value}{h:H}{K:Value->H->Prop}{KP:List PanicEntry->H->Prop}(hC:Rw vs h K):kN Tryz.prog 106 vs h K KP:=by
 obtain⟨u,v,w,k,a,b,rfl,ha,hb,hta,hlen,hK⟩:=hC
 obtain⟨aa,ac,rfl,q1,q2⟩:=ha.sl
 obtain⟨ba,bc,rfl,q3,q4⟩:=hb.sl
 have hm:=lC
 refine jJ 18014411395434439 [(none,(.t 6))] KM Tryz.func106 ?_ (by kernel_rfl) (by apply c0 rfl;repeat' first|apply cS|apply cK|apply cL|apply cX|(apply cC zD)|(conv=>lhs;cbv;try simp only[Kw]))
 simp only[go_sem]
 obtain⟨I,hI⟩:=kg (α:=Nat×Nat->ku->H->Prop) λij σ h'=>σ 0= .slice aa a.length ac/\σ 1= .slice ba b.length bc/\σ 2= .bool k/\σ 8= Jx JT ij.1/\σ 9= Jx JT ij.2/\ij.1<=a.length/\ij.2<=b.length/\ ∃u' out,jD S0 u h u' h'/\lm h.size u' h' (σ 7) out/\out.length=ij.1+ij.2/\mJ (DX k) a b=out++mJ (DX k) (a.drop ij.1) (b.drop ij.2)
 refine jE I (λij=>(a.length - ij.1)+(b.length - ij.2)) (0,0) (by rw[hI];exact⟨zJ,zJ,zJ,zJ,zJ,aj _,aj _,u,([]:List nV),.refl _ _ _,by simp only[jI];exact .nil _ _ _,rfl,rfl⟩) ?_
 rintro ⟨i,j⟩ σ h' hy
 rw[hI]at hy
 simp only at hy
 obtain⟨e0,e1,e2,e8,e9,hi,hj,u',out,st,ho,hol,heq⟩:=hy
 obtain⟨sa,sc,hσ7,-,-⟩:=ho.sl
 rw[hσ7]at ho
 -- the left one goes in
 have finA: ∀(σ':ku) (u2:U) (h2:H) (x:nV) (KP':List PanicEntry->H->Prop) (r:List St) (Q:ku->H->Prop),a[i]? =some x->jD S0 u' h' u2 h2->(∀y,b[j]? =some y->DX k x y=true)->
   (∀n a9 c9 u3 h3,jD S0 u h u3 h3->lm h.size u3 h3 (.slice a9 n c9) (out++[x])->mJ (DX k) a b=(out++[x])++mJ (DX k) (a.drop (i+1)) (b.drop j)->kT wD r Q KP' (nD σ' (some 61) (.slice a9 n c9)) h3)->
   nZ wD (.app 106 6 56 [Jx JT 0,Jx JT 0,str [],Jx JT 0,Jx JT 0,Jx JT 0]) (some 61) [] r Q KP' [.slice sa out.length sc,.slice (some ⟨h2.size,0,none⟩) 1 1] σ' (h2.push (.cells #[Jx JT x.1.1,Jx JT x.1.2.1,str x.1.2.2.1,Jx JT x.1.2.2.2,Jx JT x.2.1,Jx JT x.2.2] 106)):=by
  intro σ' u2 h2 x KP' r Q hx s2 hlt hq
  have hrx:Rep.rep u2 h2 x [Jx JT x.1.1,Jx JT x.1.2.1,str x.1.2.2.1,Jx JT x.1.2.2.2,Jx JT x.2.1,Jx JT x.2.2]:=by rw[ni];rfl
  have ho2:=ho.sZ s2
  refine lM (e':=106) (cs:=[Jx JT x.1.1,Jx JT x.1.2.1,str x.1.2.2.1,Jx JT x.1.2.2.2,Jx JT x.2.1,Jx JT x.2.2]) ho2 hrx rfl rfl (by have:=st.ge.sz;have:=s2.ge.sz;omega) zO λa9 n c9 u3 h3 ho3 s3=>⟨by simp only[rE],hq n a9 c9 u3 h3 ((st.tZ s2).own s3 λb hb=>ho2.ge hb) ho3 ?_⟩
  rw[heq,VJ hx hlt,bE];rfl
 have finB: ∀(σ':ku) (u2:U) (h2:H) (y:nV) (KP':List PanicEntry->H->Prop) (r:List St) (Q:ku->H->Prop),b[j]? =some y->jD S0 u' h' u2 h2->(∀x,a[i]? =some x->DX k x y=false)->
   (∀n a9 c9 u3 h3,jD S0 u h u3 h3->lm h.size u3 h3 (.slice a9 n c9) (out++[y])->mJ (DX k) a b=(out++[y])++mJ (DX k) (a.drop i) (b.drop (j+1))->kT wD r Q KP' (nD σ' (some 70) (.slice a9 n c9)) h3)->
   nZ wD (.app 106 6 56 [Jx JT 0,Jx JT 0,str [],Jx JT 0,Jx JT 0,Jx JT 0]) (some 70) [] r Q KP' [.slice sa out.length sc,.slice (some ⟨h2.size,0,none⟩) 1 1] σ' (h2.push (.cells #[Jx JT y.1.1,Jx JT y.1.2.1,str y.1.2.2.1,Jx JT y.1.2.2.2,Jx JT y.2.1,Jx JT y.2.2] 106)):=by
  intro σ' u2 h2 x KP' r Q hx s2 hlt hq
  have hrx:Rep.rep u2 h2 x [Jx JT x.1.1,Jx JT x.1.2.1,str x.1.2.2.1,Jx JT x.1.2.2.2,Jx JT x.2.1,Jx JT x.2.2]:=by rw[ni];rfl
  have ho2:=ho.sZ s2
  refine lM (e':=106) (cs:=[Jx JT x.1.1,Jx JT x.1.2.1,str x.1.2.2.1,Jx JT x.1.2.2.2,Jx JT x.2.1,Jx JT x.2.2]) ho2 hrx rfl rfl (by have:=st.ge.sz;have:=s2.ge.sz;omega) zO λa9 n c9 u3 h3 ho3 s3=>⟨by simp only[rE],hq n a9 c9 u3 h3 ((st.tZ s2).own s3 λb hb=>ho2.ge hb) ho3 ?_⟩
  rw[heq,Rx hx hlt,bE];rfl
 by_cases hja:i<a.length
 ·obtain⟨x,hs⟩:=qP hja
  obtain⟨pb,po,rfl,hpb,hpu,hpz,hpr⟩:=(ha.mono st.ge).row i x hs
  simp only[ni,nV.enc,sO,qU,ax,aC]at hpr hpu hpz
  obtain⟨p0,p1,p2,p3,p4,p5⟩:=hpr
  by_cases hjb:j<b.length
  ·obtain⟨y,hsy⟩:=qP hjb
   obtain⟨qb,qo,rfl,hqb,hqu,hqz,hqr⟩:=(hb.mono st.ge).row j y hsy
   simp only[ni,nV.enc,sO,qU,ax,aC]at hqr hqu hqz
   obtain⟨g0,g1,g2,g3,g4,g5⟩:=hqr
   have hxl:=hta x (aF hs)
   cases k with
   |true=>
    by_cases hlt:x.2.2<y.2.2
    ·have hl:DX true x y=true:=JC.2 hlt
     simp(disch:=omega) only[↓reduceIte,go_sem,e0,e1,e2,e8,e9,hja,hjb,p0,p1,p2,p3,p4,p5,g5,ai hlt,hσ7]
     refine finA _ u' h' x _ _ _ hs (.refl _ _ _) (λz hz=>by rw[hsy]at hz;cases hz;exact hl) λn a9 c9 u3 h3 st3 ho3 he3=> ?_
     simp(disch:=omega) only[↓reduceIte,go_sem,e8]
     refine⟨(i+1,j),?_,by simp only;omega⟩
     rw[hI]
     exact⟨by simp [jI,e0],by simp [jI,e1],by simp [jI,e2],zJ,by simp [jI,e9],hja,hj,u3,_,st3,by simpa [jI]using ho3,by rw[ay,aZ,hol];simp only;omega,he3⟩
    ·have hl:DX true x y=false:=by cases hh:DX true x y with|true=>exact absurd (JC.1 hh) hlt|false=>rfl
     simp(disch:=omega) only[↓reduceIte,go_sem,e0,e1,e2,e8,e9,hja,hjb,p5,g0,g1,g2,g3,g4,g5,ae hlt,hσ7]
     refine finB _ u' h' y _ _ _ hsy (.refl _ _ _) (λz hz=>by rw[hs]at hz;cases hz;exact hl) λn a9 c9 u3 h3 st3 ho3 he3=> ?_
     simp(disch:=omega) only[↓reduceIte,go_sem,e9]
     refine⟨(i,j+1),?_,by simp only;omega⟩
     rw[hI]
     exact⟨by simp [jI,e0],by simp [jI,e1],by simp [jI,e2],by simp [jI,e8],zJ,hi,hjb,u3,_,st3,by simpa [jI]using ho3,by rw[ay,aZ,hol];simp only;omega,he3⟩
   |false=>
    simp(disch:=omega) only[↓reduceIte,go_sem,e0,e1,e2,e8,e9,hja,hjb,p0,p1,p2,p3,p4,p5,g0,g1,g2,g3,g4,g5]
    refine jC ⟨rfl,u',x,y,rfl,hxl,λu2 h2 s2=>⟨jO,?_⟩⟩
    obtain⟨pb',po',hpe,hpb,hpu,hpz,hpr⟩:=(ha.mono (st.tZ s2).ge).row i x hs
    simp only[aQ,Addr.mk.injEq,aC]at hpe
    obtain⟨rfl,rfl⟩:=hpe
    simp only[ni,nV.enc,sO,qU,ax,aC]at hpr hpu hpz
    obtain⟨p0,p1,p2,p3,p4,p5⟩:=hpr
    obtain⟨qb',qo',hqe,hqb,hqu,hqz,hqr⟩:=(hb.mono (st.tZ s2).ge).row j y hsy
    simp only[aQ,Addr.mk.injEq,aC]at hqe
    obtain⟨rfl,rfl⟩:=hqe
    simp only[ni,nV.enc,sO,qU,ax,aC]at hqr hqu hqz
    obtain⟨g0,g1,g2,g3,g4,g5⟩:=hqr
    cases hl:DX false x y with
    |true=>
     simp(disch:=omega) only[↓reduceIte,go_sem,e0,e8,hja,p0,p1,p2,p3,p4,p5,hσ7]
     refine finA _ u2 h2 x _ _ _ hs s2 (λz hz=>by rw[hsy]at hz;cases hz;exact hl) λn a9 c9 u3 h3 st3 ho3 he3=> ?_
     simp(disch:=omega) only[↓reduceIte,go_sem,e8]
     refine⟨(i+1,j),?_,by simp only;omega⟩
     rw[hI]
     exact⟨by simp [jI,e0],by simp [jI,e1],by simp [jI,e2],zJ,by simp [jI,e9],hja,hj,u3,_,st3,by simpa [jI]using ho3,by rw[ay,aZ,hol];simp only;omega,he3⟩
    |false=>
     simp(disch:=omega) only[↓reduceIte,go_sem,e1,e9,hjb,g0,g1,g2,g3,g4,g5,hσ7]
     refine finB _ u2 h2 y _ _ _ hsy s2 (λz hz=>by rw[hs]at hz;cases hz;exact hl) λn a9 c9 u3 h3 st3 ho3 he3=> ?_
     simp(disch:=omega) only[↓reduceIte,go_sem,e9]
     refine⟨(i,j+1),?_,by simp only;omega⟩
     rw[hI]
     exact⟨by simp [jI,e0],by simp [jI,e1],by simp [jI,e2],by simp [jI,e8],zJ,hi,hjb,u3,_,st3,by simpa [jI]using ho3,by rw[ay,aZ,hol];simp only;omega,he3⟩
  ·obtain rfl:j=b.length:=zO
   simp(disch:=omega) only[↓reduceIte,go_sem,e0,e1,e8,e9,hja,ai (jc (b.length:Int)),ae (Int.lt_irrefl (b.length:Int)),p0,p1,p2,p3,p4,p5,hσ7]
   refine finA _ u' h' x _ _ _ hs (.refl _ _ _) (λz hz=>by simp at hz) λn a9 c9 u3 h3 st3 ho3 he3=> ?_
   simp(disch:=omega) only[↓reduceIte,go_sem,e8]
   refine⟨(i+1,b.length),?_,by simp only;omega⟩
   rw[hI]
   exact⟨by simp [jI,e0],by simp [jI,e1],by simp [jI,e2],zJ,by simp [jI,e9],hja,hj,u3,_,st3,by simpa [jI]using ho3,by rw[ay,aZ,hol];simp only;omega,he3⟩
 ·obtain rfl:i=a.length:=zO
  by_cases hjb:j<b.length
  ·obtain⟨y,hsy⟩:=qP hjb
   obtain⟨qb,qo,rfl,hqb,hqu,hqz,hqr⟩:=(hb.mono st.ge).row j y hsy
   simp only[ni,nV.enc,sO,qU,ax,aC]at hqr hqu hqz
   obtain⟨g0,g1,g2,g3,g4,g5⟩:=hqr
   simp(disch:=omega) only[↓reduceIte,go_sem,e0,e1,e8,e9,hjb,g0,g1,g2,g3,g4,g5,hσ7]
   refine finB _ u' h' y _ _ _ hsy (.refl _ _ _) (λz hz=>by simp at hz) λn a9 c9 u3 h3 st3 ho3 he3=> ?_
   simp(disch:=omega) only[↓reduceIte,go_sem,e9]
   refine⟨(a.length,j+1),?_,by simp only;omega⟩
   rw[hI]
   exact⟨by simp [jI,e0],by simp [jI,e1],by simp [jI,e2],by simp [jI,e8],zJ,hi,hjb,u3,_,st3,by simpa [jI]using ho3,by rw[ay,aZ,hol];simp only;omega,he3⟩
  ·obtain rfl:j=b.length:=zO
   rw[bB,bB,mJ,bG]at heq
   simp only[↓reduceIte,go_sem,e0,e1,e8,e9,hσ7]
   exact hK _ _ _ st (by rw[heq];exact ho.iZ)
end Go.Proofs.Z
namespace Edict
theorem wH.drop{l:List nV}{k:Nat}(h:wH l):wH (l.drop k):=jg (List.drop_sublist k l) h
theorem wH.take{l:List nV}{k:Nat}(h:wH l):wH (l.take k):=jg (List.take_sublist k l) h
theorem Ru(p:Option jK):wR p []=[]:=rfl
theorem EL(p:Option jK)(x:nV)(l:List nV):wR p (x::l)=if p=some (jU x.1)then wR p l else x::wR (some (jU x.1)) l:=rfl
def Ji(p:Option jK)(l:List nV):Option jK:=match l.getLast? with
 |some x=>some (jU x.1)
 |none=>p
theorem aac(p:Option jK): ∀(l:List nV) (x:nV),wR p (l++[x])=wR p l++if Ji p l=some (jU x.1)then []else [x]:=by
 intro l
 induction l generalizing p with
 |nil=>intro x;simp only[aJ,EL,Ru,Ji,List.getLast?_nil];by_cases e:p=some (jU x.1)<;>simp [e]
 |cons y l ih=>
  intro x
  have hl: ∀q:Option jK,Ji p (y::l)=Ji (some (jU y.1)) l:=by
   intro _
   unfold Ji
   cases l with
   |nil=>rfl
   |cons z l=>rw[List.getLast?_cons_cons];cases h:(z::l).getLast? with
    |some w=>rfl
    |none=>simp at h
  rw[aP,EL,EL,hl p]
  by_cases e:p=some (jU y.1)
  ·rw[ah e,ah e,ih,<-e]
  ·rw[af e,af e,ih,aP]
end Edict
namespace Go.Proofs.Z
open Go Go.Ev Edict
variable {K:Value->H->Prop} {KP:List PanicEntry->H->Prop} {h:H}
def DK(n:Nat)(vs:List Value)(h:H)(K:Value->H->Prop):Prop:= ∃(u:U) (v:Value) (k:Bool) (l:List nV),vs=[v,.bool k]/\jS u h v l/\l.length<=n/\n<=1000000/\wH l/\adu l/\ ∀u' h' w r,jD S0 u h u' h'->yl k l r->jS u' h' w r->K w h'
def ads(n:Nat):lq:=λf vs h K _=>(f=81/\DK n vs h K)\/(f=106/\Rw vs h K)
theorem DL{G:lq}(hG:lQ Tryz.prog G){u:U}{v:Value}{k:Bool}{l:List nV}(hl:jS u h v l)(h2:l.length<2)(hK: ∀u' h' w r,jD S0 u h u' h'->yl k l r->jS u' h' w r->K w h'):kN Tryz.prog 81 [v,.bool k] h K KP:=by
 obtain⟨la,lc,rfl,q1,q2⟩:=hl.sl
 have hm:=lC
 refine jJ 1267 [(none,(.t 4))] hG Tryz.func81 ?_
 simp only[↓reduceIte,go_sem,ai (show(l.length:Int)<2 by omega)]
 have o1:=ui (α:=nV) h.size u h (ak _) 106
 have spA:=jD.qZ S0 u h #[] 106
 refine lV (k:=h.size) o1 (hl.mono spA.ge) rfl rfl zY (by simp only[aA];omega) λa n c u3 h3 ho3 s3=>⟨jO,?_⟩
 rw[aJ]at ho3
 simp only[↓reduceIte,go_sem,jN]
 exact hK _ _ _ l (spA.own s3 λj hj=>o1.ge hj) (yl.small h2) ho3.iZ
theorem FK: ∀(n:Nat) {vs:List Value} {h:H} {K:Value->H->Prop} {KP:List PanicEntry->H->Prop},DK n vs h K->kN Tryz.prog 81 vs h K KP:=by
 intro n
 induction n with
 |zero=>
  intro vs h K KP hC
  obtain⟨u,v,k,l,rfl,hl,hln,-,-,-,hK⟩:=hC
  exact DL (G:=λ_ _ _ _ _=>False) (λ_ _ _ _ _ h=>h.elim) hl zO hK
 |succ n ih=>
  intro vs h K KP hC
  obtain⟨u,v,k,l,rfl,hl,hln,hn,hd,ht,hK⟩:=hC
  by_cases h2:l.length<2
  ·exact DL (G:=λ_ _ _ _ _=>False) (λ_ _ _ _ _ h=>h.elim) hl h2 hK
  obtain⟨la,lc,rfl,q1,q2⟩:=hl.sl
  have hm:=lC
  have hG:lQ Tryz.prog (ads n):=by
   rintro f vs h K KP (⟨rfl,hC⟩|⟨rfl,hC⟩)
   ·exact ih hC
   ·exact Ry hC
  obtain⟨m,hmd⟩: ∃m:Nat,(l.length:Int) / 2=m:=⟨l.length / 2,zO⟩
  have hml:m<l.length:=zO
  have hm1:1<=m:=zO
  refine jJ 1267 [(none,(.t 4))] hG Tryz.func81 ?_
  simp(disch:=omega) only[↓reduceIte,go_sem,ae (show¬(l.length:Int)<2 by omega),Yq,hmd]
  refine⟨zO,?_⟩
  refine jC (.inl ⟨rfl,u,_,k,l.take m,rfl,VH hl zO,by rw[aR];omega,zO,hd.take,λx hx=>ht x (eP hx),λu2 h2' w2 r2 s2 hr2 hw2=>⟨jO,?_⟩⟩)
  simp only[↓reduceIte,go_sem,adt]
  refine⟨zO,?_⟩
  refine jC (.inl ⟨rfl,u2,_,k,l.drop m,rfl,(VI hl hml 6 rfl).mono s2.ge,by rw[bY];omega,zO,hd.drop,λx hx=>ht x (List.mem_of_mem_drop hx),λu3 h3 w3 r3 s3 hr3 hw3=>⟨jO,?_⟩⟩)
  have st3:=s2.tZ s3
  have l2:=hr2.1.length_eq
  have l3:=hr3.1.length_eq
  rw[aR]at l2
  rw[bY]at l3
  simp only[↓reduceIte,go_sem,jN]
  refine jC (.inr ⟨rfl,u3,_,_,k,r2,r3,rfl,hw2.mono s3.ge,hw3,λx hx=>ht x (eP (hr2.1.mem_iff.1 hx)),zO,λu4 h4 r s4 hr=>⟨jO,?_⟩⟩)
  simp only[↓reduceIte,go_sem,jN]
  have hmg:=yl.merge (a:=l.take m) (b:=l.drop m) (by rw[bV];exact hd) hr2 hr3
  rw[bV]at hmg
  exact hK _ _ _ _ (st3.tZ s4) hmg hr
def Mf(vs:List Value)(h:H)(K:Value->H->Prop):Prop:= ∃(u:U) (v:Value) (l:List nV),vs=[v]/\jS u h v l/\l.length<=1000000/\(l.Pairwise λx y=>x.2.2<y.2.2)/\adu l/\ ∀u' h' w,jD S0 u h u' h'->jS u' h' w (kL [] l)->K w h'
def VG:lq:=λf vs h K _=>(f=81/\ ∃n,DK n vs h K)\/(f=40/\Cv vs h K)\/(f=82/\Yu vs h K)
theorem KL:lQ Tryz.prog VG:=by
 rintro f vs h K KP (⟨rfl,n,hC⟩|⟨rfl,hC⟩|⟨rfl,hC⟩)
 ·exact FK n hC
 ·exact ug hC
 ·exact aal hC
theorem Rv{vs:List Value}(hC:Mf vs h K):kN Tryz.prog 39 vs h K KP:=by
 obtain⟨u,v,l,rfl,hl,hll,hup,htx,hK⟩:=hC
 obtain⟨la,lc,rfl,q1,q2⟩:=hl.sl
 have hm:=lC
 refine jJ 9007203550233725 [(none,(.t 2))] KL Tryz.func39 ?_ (by kernel_rfl) (by apply c0 rfl;repeat' first|apply cS|apply cK|apply cL|apply cX|(apply cC zD)|with_reducible exact cV 12 (.sts [(zq .eql (.t 6) (zv 0)),(.chk [((zb .eql (.t 6) (zv 0)),false)] (.c2 (.idxA 6) (.t 3) (.t 6))),(.chk [((zb .eql (.t 6) (zv 0)),false)] (.c1 (.fld 0) (zi 6 (.t 3) (.t 6)))),(.chk [((zb .eql (.t 6) (zv 0)),false)] (.c1 (.ldn 4) (zf 0 (zi 6 (.t 3) (.t 6))))),(.chk [((zb .eql (.t 6) (zv 0)),false)] (.c2 (.bin .sub) (.t 6) (zv 1))),(.chk [((zb .eql (.t 6) (zv 0)),false)] (.c2 (.idxA 6) (.t 3) (zb .sub (.t 6) (zv 1)))),(.chk [((zb .eql (.t 6) (zv 0)),false)] (.c1 (.fld 0) (zi 6 (.t 3) (zb .sub (.t 6) (zv 1))))),(.chk [((zb .eql (.t 6) (zv 0)),false)] (.c1 (.ldn 4) (zf 0 (zi 6 (.t 3) (zb .sub (.t 6) (zv 1)))))),(.set 49 (.o1 (.ldn 4) (zf 0 (zi 6 (.t 3) (zb .sub (.t 6) (zv 1)))))),(.set 42 (.o1 (.ldn 4) (zf 0 (zi 6 (.t 3) (.t 6))))),(.eff [((zb .eql (.t 6) (zv 0)),false)] (some 43) (.call 40) [(.t 42)] [([((zb .eql (.t 6) (zv 0)),false)],((zf 0 (zi 6 (.t 3) (zb .sub (.t 6) (zv 1)))),(some 4)))]),(.eff [((zb .eql (.t 6) (zv 0)),false)] (some 50) (.call 40) [(.t 49)] []),(.eff [((zb .eql (.t 6) (zv 0)),false)] (some 51) (.call 82) [(.t 43),(.t 50)] []),(.chk [((zb .eql (.t 6) (zv 0)),false)] (.c1 .not (.t 51))),(.chk [] (.c3 .pick (zb .eql (.t 6) (zv 0)) (.c (.bool true)) (.o1 .not (.t 51)))),(.set 53 (.o3 .pick (zb .eql (.t 6) (zv 0)) (.c (.bool true)) (.o1 .not (.t 51))))]) (by kernel_rfl)|(conv=>lhs;cbv;try simp only[Kw]))
 simp only[go_sem]
 obtain⟨I,hI⟩:=kg (α:=Nat->ku->H->Prop) λi σ h'=>σ 0= .slice la l.length lc/\σ 4= Jx JT i/\i<=l.length/\ ∃u',jD S0 u h u' h'/\lm h.size u' h' (σ 3) ((l.take i).filter isK)
 refine jE I (λi=>l.length - i) 0 (by rw[hI];exact⟨zJ,zJ,aj _,u,.refl _ _ _,by simp only[jI];exact .nil _ _ _⟩) ?_
 intro i σ h' hy
 rw[hI]at hy
 obtain⟨e0,e4,hi,u',st,ho⟩:=hy
 by_cases hlt:i<l.length
 ·obtain⟨x,hs⟩:=qP hlt
  obtain⟨pb,po,rfl,hpb,hpu,hpz,hpr⟩:=(hl.mono st.ge).row i x hs
  simp only[ni,nV.enc,sO,qU,ax,aC]at hpr hpu hpz
  obtain⟨p0,p1,p2,p3,p4,p5⟩:=hpr
  have hsn:=EO (p:=isK) hs
  have hfl:((l.take i).filter isK).length<=i:=aT (bW _ _) (by rw[aR];exact eO _ _)
  by_cases h4:x.1.1=4
  ·have hk:isK x=false:=by unfold isK;rw[bq h4];rfl
   rw[hk,af zP,bG]at hsn
   simp(disch:=omega) only[↓reduceIte,go_sem,e0,e4,hlt,p0,ai h4]
   refine⟨i+1,?_,zO⟩
   rw[hI]
   exact⟨by simp [jI,e0],zJ,hlt,u',st,by rw[hsn];simpa [jI]using ho⟩
  ·have hk:isK x=true:=by unfold isK;rw[aI h4];rfl
   rw[hk,ah rfl]at hsn
   have hrx:Rep.rep u' h' x [Jx JT x.1.1,Jx JT x.1.2.1,str x.1.2.2.1,Jx JT x.1.2.2.2,Jx JT x.2.1,Jx JT x.2.2]:=by rw[ni];rfl
   simp(disch:=omega) only[↓reduceIte,go_sem,e0,e4,hlt,p0,p1,p2,p3,p4,p5,ae h4]
   refine lM (e':=106) (cs:=[Jx JT x.1.1,Jx JT x.1.2.1,str x.1.2.2.1,Jx JT x.1.2.2.2,Jx JT x.2.1,Jx JT x.2.2]) ho hrx rfl rfl st.ge.sz zO λa n c u3 h3 ho3 s3=>⟨jO,?_⟩
   simp(disch:=omega) only[↓reduceIte,go_sem,e4]
   refine⟨i+1,?_,zO⟩
   rw[hI]
   exact⟨by simp [jI,e0],zJ,hlt,u3,st.own s3 λj hj=>ho.ge hj,by rw[hsn];simpa [jI]using ho3⟩
 ·obtain rfl:i=l.length:=zO
  rw[aK]at ho
  have hdl:wH l:=hup.imp λh e=>zO
  have hfl:(l.filter isK).length<=l.length:=bW _ _
  have hsl:=ho.iZ
  obtain⟨sa,sc,hσ3,-,-⟩:=ho.sl
  rw[hσ3]at hsl
  simp only[↓reduceIte,go_sem,e0,e4,hσ3]
  refine jC (.inl ⟨rfl,_,u',_,false,l.filter isK,rfl,hsl,ak _,zO,hdl.sublist fT,λx hx=>htx x (dX.1 hx).1,λu2 h2 w2 s s2 hs2 hw2=>⟨jO,?_⟩⟩)
  have st2:=st.tZ s2
  have hsn:=hs2.1.length_eq
  obtain⟨wa,wc,rfl,-,-⟩:=hw2.sl
  simp only[↓reduceIte,go_sem,jN]
  clear hI I
  obtain⟨J,hJ⟩:=kg (α:=Nat->ku->H->Prop) λi σ h'=>σ 3= .slice wa s.length wc/\σ 6= Jx JT i/\i<=s.length/\ ∃u',jD S0 u h u' h'/\jS u' h' (.slice wa s.length wc) s/\lm h.size u' h' (σ 5) (wR none (s.take i))
  refine jE J (λi=>s.length - i) 0 (by rw[hJ];exact⟨zJ,zJ,aj _,u2,st2,hw2,by simp only[jI];exact .nil _ _ _⟩) ?_
  clear e0 e4 ho st hsl hσ3
  intro j τ h7 hy
  rw[hJ]at hy
  obtain⟨f3,f6,hj,u7,st7,iS,ho7⟩:=hy
  by_cases hjl:j<s.length
  ·obtain⟨x,hx⟩:=qP hjl
   obtain⟨pb,po,hpe,hpb,hpu,hpz,hpr⟩:=iS.row j x hx
   subst hpe
   simp only[ni,nV.enc,sO,qU,ax,aC]at hpr hpu hpz
   obtain⟨p0,p1,p2,p3,p4,p5⟩:=hpr
   have htk:s.take (j+1)=s.take j++[x]:=by rw[aX,hx];rfl
   have hol:(wR none (s.take j)).length<=j:=aT (ym _ _).length_le (by rw[aR];exact eO _ _)
   obtain⟨oa,oc,hτ5,-,-⟩:=ho7.sl
   rw[hτ5]at ho7
   have hrx: ∀u9 h9,Rep.rep u9 h9 x [Jx JT x.1.1,Jx JT x.1.2.1,str x.1.2.2.1,Jx JT x.1.2.2.2,Jx JT x.2.1,Jx JT x.2.2]:=λu9 h9=>by rw[ni];rfl
   by_cases h0:j=0
   ·subst h0
    rw[gZ,Ru]at ho7 hτ5
    have hon:wR none (s.take (0+1))=[]++[x]:=by rw[htk,gZ];rfl
    simp only[aA]at ho7 hτ5
    have f6':τ 6= Jx JT 0:=f6
    have hjl':(0:Int)<s.length:=zO
    have q0:0<s.length:=hjl
    rw[fB,dO]at p0 p1 p2 p3 p4 p5 hpu hpz
    simp(disch:=omega) only[↓reduceIte,go_sem,f3,f6',ai hjl',p0,p1,p2,p3,p4,p5,hτ5]
    refine lM (e':=106) (cs:=[Jx JT x.1.1,Jx JT x.1.2.1,str x.1.2.2.1,Jx JT x.1.2.2.2,Jx JT x.2.1,Jx JT x.2.2]) ho7 (hrx _ _) rfl rfl st7.ge.sz (by simp only[aA];omega) λa n c u3 h3 ho3 s3=>⟨jO,?_⟩
    simp(disch:=omega) only[↓reduceIte,go_sem,f6']
    refine⟨0+1,?_,zO⟩
    rw[hJ]
    exact⟨by simp [jI,f3],zJ,zO,u3,st7.own s3 λj hj=>ho7.ge hj,iS.mono s3.ge,by rw[hon];simpa [jI]using ho3⟩
   ·obtain⟨z,hz⟩: ∃z,s[j - 1]? =some z:=⟨s[j - 1],by rw[bf zO]⟩
    obtain⟨pb2,po2,hpe2,hpb2,hpu2,hpz2,hpr2⟩:=iS.row (j - 1) z hz
    simp only[aQ,Addr.mk.injEq,aC]at hpe2
    obtain⟨rfl,rfl⟩:=hpe2
    simp only[ni,nV.enc,sO,qU,ax,aC]at hpr2 hpu2 hpz2
    obtain⟨z0,z1,z2,z3,z4,z5⟩:=hpr2
    have hlast:Ji none (s.take j)=some (jU z.1):=by
     unfold Ji
     have:(s.take j).getLast? =some z:=by
      rw[List.getLast?_eq_getElem?,aR,iY zO,dE,ah zO,hz]
     rw[this]
    have hon:wR none (s.take (j+1))=wR none (s.take j)++if jU x.1=jU z.1 then []else [x]:=by
     rw[htk,aac,hlast]
     by_cases e:jU x.1=jU z.1
     ·rw[ah e,ah (by rw[e])]
     ·rw[af e,af (λh=>e (bR h).symm)]
    have hj0: ¬((j:Int)=0):=zO
    have hj1:(j:Int) - 1=((j - 1:Nat):Int):=zO
    have hjs:j - 1<s.length:=zO
    simp(disch:=omega) only[↓reduceIte,go_sem,f3,f6,hjl,p0,p1,p2,p3,ae hj0,hj1,hjs,z0,z1,z2,z3]
    refine jC (.inr (.inl ⟨rfl,u7,x.1,rfl,λu8 h8 s8=> ?_⟩))
    have iS8:=iS.mono s8.ge
    obtain⟨pb2,po2,hpe2,hpb2,hpu2,hpz2,hpr2⟩:=iS8.row (j - 1) z hz
    simp only[aQ,Addr.mk.injEq,aC]at hpe2
    obtain⟨rfl,rfl⟩:=hpe2
    simp only[ni,nV.enc,sO,qU,ax,aC]at hpr2 hpu2 hpz2
    obtain⟨y0,y1,y2,y3,y4,y5⟩:=hpr2
    show mq _ _ _ _/\_
    refine⟨by simp(disch:=omega) only[↓reduceIte,go_sem,f3,f6,ae hj0,hj1,y0,y1,y2,y3,z0,z1,z2,z3],?_⟩
    simp only[↓reduceIte,go_sem,f6,ae hj0]
    refine jC (.inr (.inl ⟨rfl,u8,z.1,rfl,λu9 h9 s9=>⟨jO,?_⟩⟩))
    simp only[↓reduceIte,go_sem,f6,ae hj0]
    refine jC (.inr (.inr ⟨rfl,u9,jU x.1,jU z.1,rfl,λu10 h10 s10=>⟨jO,?_⟩⟩))
    have s710:=(s8.tZ s9).tZ s10
    have iS10:=iS.mono s710.ge
    have ho10:=ho7.sZ s710
    have st10:=st7.tZ s710
    obtain⟨pb3,po3,hpe3,hpb3,hpu3,hpz3,hpr3⟩:=iS10.row j x hx
    simp only[aQ,Addr.mk.injEq,aC]at hpe3
    obtain⟨rfl,rfl⟩:=hpe3
    simp only[ni,nV.enc,sO,qU,ax,aC]at hpr3 hpu3 hpz3
    obtain⟨p0,p1,p2,p3,p4,p5⟩:=hpr3
    by_cases he:jU x.1=jU z.1
    ·rw[ah he,bG]at hon
     simp(disch:=omega) only[↓reduceIte,go_sem,f6,ae hj0,ai he,decide_true]
     refine⟨j+1,?_,zO⟩
     rw[hJ]
     exact⟨by simp [jI,f3],zJ,hjl,u10,st10,iS10,by rw[hon];simpa [jI,hτ5]using ho10⟩
    ·rw[af he]at hon
     simp(disch:=omega) only[↓reduceIte,go_sem,f3,f6,ae hj0,ae he,decide_false,hjl,p0,p1,p2,p3,p4,p5,hτ5]
     refine lM (e':=106) (cs:=[Jx JT x.1.1,Jx JT x.1.2.1,str x.1.2.2.1,Jx JT x.1.2.2.2,Jx JT x.2.1,Jx JT x.2.2]) ho10 (hrx _ _) rfl rfl st10.ge.sz zO λa n c u3 h3 ho3 s3=>⟨jO,?_⟩
     simp(disch:=omega) only[↓reduceIte,go_sem,f6]
     refine⟨j+1,?_,zO⟩
     rw[hJ]
     exact⟨by simp [jI,f3],zJ,hjl,u3,st10.own s3 λj hj=>ho10.ge hj,iS10.mono s3.ge,by rw[hon];simpa [jI]using ho3⟩
  ·obtain rfl:j=s.length:=zO
   rw[aK]at ho7
   have hd1:wH (wR none s):=(hs2.1.pairwise_iff (λh e=>h e.symm) |>.2 (hdl.sublist fT)).sublist (ym _ _)
   have hol:=(ym s none).length_le
   obtain⟨oa,oc,hτ5,-,-⟩:=ho7.sl
   have hi7:=ho7.iZ
   rw[hτ5]at hi7
   simp only[↓reduceIte,go_sem,f3,f6,hτ5]
   refine jC (.inl ⟨rfl,_,u7,_,true,wR none s,rfl,hi7,ak _,zO,hd1,λx hx=>htx x (dX.1 (hs2.1.mem_iff.1 ((ym _ _).mem hx))).1,λu8 h8 w8 r s8 hr hw8=>⟨jO,?_⟩⟩)
   simp only[↓reduceIte,go_sem,jN]
   have:=aaq hup hs2 hr
   exact hK _ _ _ (st7.tZ s8) (by rw[<-this];exact hw8)
end Go.Proofs.Z
namespace Go.Ev
open Go Rep
theorem kW {α:Type} [Rep α] {G:lq} {e e':TypeId} {bytes s:Nat} {z cs:List Value} {k p:Nat} {u:U} {h:H} {v:Value} {l:List α} {x:α} {d:Option Nat} {st:su} {r:List St} {K:ku->H->Prop} {KP:List PanicEntry->H->Prop} {σ:ku}
  (hp:p=h.size) (ho:lm k u h v l) (hx:rep u h x cs) (hs:s=sz α) (hz:z.length=sz α) (hk:k<=h.size) (hb:(l.length+1)*bytes<=140737488355328)
  (hK: ∀a n c u' h',lm k u' h' (.slice a n c) (l++[x])->jD (jL v) u h u' h'->(∀b,jL (.slice a n c) b->jL v b\/h.size<=b)->mq st σ (h.push (.cells cs.toArray e')) h'/\kT G r K KP (nD σ d (.slice a n c)) h'):
  nZ G (.app e s bytes z) d st r K KP [v,.slice (some ⟨p,0,none⟩) 1 1] σ (h.push (.cells cs.toArray e')):=by
 subst hp
 exact CU (G:=G) (KP:=KP) (K:=λv' h'=>mq st σ (h.push (.cells cs.toArray e')) h'/\kT G r K KP (nD σ d v') h') ho hx hs hz hk hb (λv' u' h' o' s' b'=>by
  obtain⟨a,c,rfl,-,-⟩:=o'.sl
  exact hK _ _ _ _ _ o' s' b')
end Go.Ev
namespace Go.Proofs.Z
open Go Go.Ev Edict
variable {b:Nat} {cs:List jK} {fs:List sj} {k mc mp:Nat} {ps:List kK} {rs:List oq} {u:U} {vC vF vP vR:Value}
variable {vs:List Value} {h:H} {K:Value->H->Prop} {KP:List PanicEntry->H->Prop}
def Eg(D:List (Nat->Prop)):Prop:=D.Pairwise λA B=> ∀i,A i-> ¬B i
structure wL (k:Nat) (u:U) (h:H) (b mp mc:Nat) (vP vC vR vF:Value) (ps:List kK) (cs:List jK) (rs:List oq) (fs:List sj):Prop where
 blk:jR u h b [vP,vC,vR,vF,.map (some mp),.map (some mc)]
 oP:lm k u h vP ps
 oC:lm k u h vC cs
 oR:lm k u h vR rs
 oF:lm k u h vF fs
 mP:oI h mp (nJ (ps.map (·.1))) ps.length
 mC:wP ksC AJ h mc (nJ cs) cs.length
 dis:Eg [(· =b),(· =mp),(· =mc),jL vP,jL vC,jL vR,jL vF]
 kb:k<=b
 kp:k<=mp
 kc:k<=mc
def qQ(b mp mc:Nat)(vP vC vR vF:Value):Nat->Prop:=λi=>i=b\/i=mp\/i=mc\/jL vP i\/jL vC i\/jL vR i\/jL vF i
theorem wL.step {k:Nat} {S:Nat->Prop} {u u':U} {h h':H} {b mp mc:Nat} {vP vC vR vF:Value} {ps:List kK} {cs:List jK} {rs:List oq} {fs:List sj} (B:wL k u h b mp mc vP vC vR vF ps cs rs fs) (s:jD S u h u' h')
  (hn: ∀i,qQ b mp mc vP vC vR vF i-> ¬S i):wL k u' h' b mp mc vP vC vR vF ps cs rs fs where
 blk:=B.blk.step s (hn _ (.inl rfl))
 oP:=B.oP.step s λi hi=>hn _ (.inr (.inr (.inr (.inl hi))))
 oC:=B.oC.step s λi hi=>hn _ (.inr (.inr (.inr (.inr (.inl hi)))))
 oR:=B.oR.step s λi hi=>hn _ (.inr (.inr (.inr (.inr (.inr (.inl hi))))))
 oF:=B.oF.step s λi hi=>hn _ (.inr (.inr (.inr (.inr (.inr (.inr hi))))))
 mP:=B.mP.step s (hn _ (.inr (.inl rfl)))
 mC:=B.mC.step s (hn _ (.inr (.inr (.inl rfl))))
 dis:=B.dis
 kb:=B.kb
 kp:=B.kp
 kc:=B.kc
def OI(vs:List Value)(h:H)(K:Value->H->Prop):Prop:= ∃u:U,vs=[]/\ ∀u' h' (b mp mc:Nat),jD S0 u h u' h'->wL h.size u' h' b mp mc (.slice none 0 0) (.slice none 0 0) (.slice none 0 0) (.slice none 0 0) [] [] [] []->K (.pointer (some ⟨b,0,none⟩)) h'
theorem WH(hC:OI vs h K):kN Tryz.prog 26 vs h K KP:=by
 obtain⟨u,rfl,hK⟩:=hC
 refine jJ 1 [(none,(.t 0))] (G:=(λ_ _ _ _ _=>False)) (λ_ _ _ _ _ h=>h.elim) Tryz.func26 ?_
 simp only[go_sem]
 refine xF u λu1 h1 s1 m1=>⟨jO,?_⟩
 simp only[go_sem,jN]
 refine LJ ksC AJ u1 λu2 h2 s2 m2=>⟨jO,?_⟩
 have sp:=jD.qZ S0 u2 h2 #[.slice none 0 0,.slice none 0 0,.slice none 0 0,.slice none 0 0,.map (some h.size),.map (some h1.size)] 93
 have m1':=(m1.step s2 (λh=>h)).step sp (λh=>h)
 have m2':=m2.step sp (λh=>h)
 have z1:=m1.lt
 have z2:=m2.lt
 have z3:=s2.ge.sz
 have X:jR (ub u2 h2.size 0) (h2.push (.cells #[.slice none 0 0,.slice none 0 0,.slice none 0 0,.slice none 0 0,.map (some h.size),.map (some h1.size)] 93)) h2.size [.slice none 0 0,.slice none 0 0,.slice none 0 0,.slice none 0 0,.map (some h.size),.map (some h1.size)]:=(jR.mk zY zE zE (by repeat (first|(refine lU ?_;simp only[];done)|apply kG)) zE)
 simp only[↓reduceIte,go_sem,jN]
 refine hK _ _ h2.size h.size h1.size ((s1.tZ s2).tZ sp) ⟨X,.nil _ _ _,.nil _ _ _,.nil _ _ _,.nil _ _ _,m1',m2',?_,zO,ak _,zO⟩
 simp only[Eg,bD,aH,cO,or_false,forall_eq_or_imp,forall_eq,List.Pairwise.nil,aC,false_imp_iff,implies_true,oG,not_false_eq_true]
 omega
theorem nL{α:Type} [Rep α]{h:H}{v:Value}{l:List α}{o:Nat}{x:Value}(ho:lm k u h v l)(hb: ¬jL v b)(hu:u b=0):lm k u (ky h b o x) v l:=
 ho.step (jD.set (S:=λi=>i=b) u h x rfl (by rw[hu];exact aj _)) (λi hi e=>hb (by have e:i=b:=e;rw[<-e];exact hi))
theorem wL.putP {u1 u2:U} {h h1 h2:H} {vP':Value} {x:kK} (B:wL k u h b mp mc vP vC vR vF ps cs rs fs)
  (s1:jD (λi=>i=mp) u h u1 h1) (m1:oI h1 mp (nJ ((ps++[x]).map (·.1))) (ps++[x]).length) (o2:lm k u2 h2 vP' (ps++[x])) (s2:jD (jL vP) u1 h1 u2 h2) (hb: ∀i,jL vP' i->jL vP i\/h1.size<=i):
  wL k u2 (ky h2 b 0 vP') b mp mc vP' vC vR vF (ps++[x]) cs rs fs/\jD (qQ b mp mc vP vC vR vF) u h u2 (ky h2 b 0 vP'):=by
 have D:=B.dis
 simp only[Eg,bD,aH,cO,or_false,forall_eq_or_imp,forall_eq,List.Pairwise.nil,aC,false_imp_iff,implies_true]at D
 obtain⟨⟨d1,d2,d3,d4,d5,d6⟩,⟨d7,d8,d9,d10,d11⟩,⟨d12,d13,d14,d15⟩,⟨d16,d17,d18⟩,⟨d19,d20⟩,d21⟩:=D
 have X1:=B.blk.step s1 d1
 have X2:=X1.step s2 d3
 have C1:=B.oC.step s1 (λi hi e=>d9 (by have e:i=mp:=e;rw[<-e];exact hi))
 have C2:=C1.step s2 (λi hi e=>d16 i e hi)
 have R1:=B.oR.step s1 (λi hi e=>d10 (by have e:i=mp:=e;rw[<-e];exact hi))
 have R2:=R1.step s2 (λi hi e=>d17 i e hi)
 have F1:=B.oF.step s1 (λi hi e=>d11 (by have e:i=mp:=e;rw[<-e];exact hi))
 have F2:=F1.step s2 (λi hi e=>d18 i e hi)
 have mP2:=m1.step s2 d8
 have mC1:=B.mC.step s1 (λe=>d7 (by have e:mc=mp:=e;rw[e]))
 have mC2:=mC1.step s2 d12
 have hbl:=X1.1
 have hmcl:=mC1.lt
 have hmpl:=m1.lt
 have hnew: ∀j,j<h1.size-> ¬jL vP j-> ¬jL vP' j:=λj hj hn hv=>(hb j hv).elim hn (λh=>zO)
 have sw:jD (λi=>i=b) u2 h2 u2 (ky h2 b 0 vP'):=jD.set u2 h2 vP' rfl (by rw[X2.2.2.2.1];exact ak _)
 have sall:jD (qQ b mp mc vP vC vR vF) u h u2 (ky h2 b 0 vP'):=((s1.mono (S':=qQ b mp mc vP vC vR vF) (λi _ e=> .inr (.inl e))).trans s2 (λi _ hi=> .inr (.inr (.inr (.inl hi))))).trans sw (λi _ e=> .inl e)
 have hP'b: ¬jL vP' b:=hnew b hbl d3
 have hcl: ∀j,jL vC j-> ¬jL vP' j:=λj hj=>hnew j (C1.lt hj) (λhv=>d16 j hv hj)
 have hrl: ∀j,jL vR j-> ¬jL vP' j:=λj hj=>hnew j (R1.lt hj) (λhv=>d17 j hv hj)
 have hfl: ∀j,jL vF j-> ¬jL vP' j:=λj hj=>hnew j (F1.lt hj) (λhv=>d18 j hv hj)
 refine⟨⟨X2.set (i:=0) (v:=vP') zP,nL o2 hP'b X2.2.2.2.1,nL C2 d4 X2.2.2.2.1,nL R2 d5 X2.2.2.2.1,nL F2 d6 X2.2.2.2.1,mP2.step sw (λe=>d1 (by have e:mp=b:=e;rw[e])),mC2.step sw (λe=>d2 (by have e:mc=b:=e;rw[e])),?_,B.kb,B.kp,B.kc⟩,sall⟩
 simp only[Eg,bD,aH,cO,or_false,forall_eq_or_imp,forall_eq,List.Pairwise.nil,aC,false_imp_iff,implies_true]
 exact⟨⟨d1,d2,hP'b,d4,d5,d6⟩,⟨d7,hnew mp hmpl d8,d9,d10,d11⟩,⟨hnew mc hmcl d12,d13,d14,d15⟩,⟨λj hv hj=>hcl j hj hv,λj hv hj=>hrl j hj hv,λj hv hj=>hfl j hj hv⟩,⟨d19,d20⟩,d21⟩
theorem wL.open{h:H}(B:wL k u h b mp mc vP vC vR vF ps cs rs fs):
  lS h b=6/\tJ h b=(0,0)/\Go.Ev.hv h b 0=vP/\Go.Ev.hv h b 1=vC/\Go.Ev.hv h b 2=vR/\Go.Ev.hv h b 3=vF/\Go.Ev.hv h b 4= .map (some mp)/\Go.Ev.hv h b 5= .map (some mc)/\b<h.size:=
 ⟨B.blk.2.1,B.blk.2.2.1,B.blk.at 0 zP,B.blk.at 1 zP,B.blk.at 2 zP,B.blk.at 3 zP,B.blk.at 4 zP,B.blk.at 5 zP,B.blk.1⟩
def Eh(vs:List Value)(h:H)(K:Value->H->Prop):Prop:= ∃(k:Nat) (u:U) (b mp mc:Nat) (v vP vC vR vF:Value) (al:List kZ) (ps:List kK) (cs:List jK) (rs:List oq) (fs:List sj),vs=[.pointer (some ⟨b,0,none⟩),v]/\jS u h v al/\wL k u h b mp mc vP vC vR vF ps cs rs fs/\
 ps.length+al.length<=1048576/\k<=h.size/\
 ∀u' h' vP',jD (qQ b mp mc vP vC vR vF) u h u' h'->wL k u' h' b mp mc vP' vC vR vF (al.foldl ru ps) cs rs fs->(∀i,jL vP' i->jL vP i\/h.size<=i)->K (.tuple #[]) h'
theorem ad1(ps:List kK)(a:kZ):(ru ps a).length<=ps.length+1:=by unfold ru;split<;>simp
theorem WI(hC:Eh vs h K):kN Tryz.prog 27 vs h K KP:=by
 obtain⟨k,u,b,mp,mc,v,vP,vC,vR,vF,al,ps,cs,rs,fs,rfl,hl,B,hlen,hkh,hK⟩:=hC
 obtain⟨la,lc,rfl,q1,q2⟩:=hl.sl
 have hm:=lC
 refine jJ 16781219 [] AF Tryz.func27 ?_ (by kernel_rfl) (by apply c0 rfl;repeat' first|apply cS|apply cK|apply cL|apply cX|(apply cC zD)|with_reducible exact cV 5 (.sts [(zk .nilck (.t 0)),(zg 0 (.t 0)),(zg 0 (zf 0 (.t 0))),(zh (zf 0 (zf 0 (.t 0)))),(zg 0 (.t 5)),(zh (zf 0 (.t 5))),(zg 1 (.t 5)),(zh (zf 1 (.t 5))),(zk .len (zl (zf 1 (.t 5)))),(.chk [] (.cb 2 [(0,(1,(zl (zf 0 (.t 5))))),(1,(1,(.o1 .len (zl (zf 1 (.t 5))))))])),(.set 36 (.o2 (.put 1 1) (.o2 (.put 0 1) (.c (.agg #[(str []),(Jx JT 0)])) (zl (zf 0 (.t 5)))) (.o1 .len (zl (zf 1 (.t 5)))))),(.set 30 (zl (zf 0 (zf 0 (.t 0))))),(.eff [] (some 37) (.bsl 152 2 1 [(str []),(Jx JT 0)] [0]) [(.t 36)] [([],((zf 0 (zf 0 (.t 0))),none))]),(.eff [] (some 38) (.app 152 2 24 [(str []),(Jx JT 0)]) [(.t 30),(.t 37)] []),(zk .nilck (.t 0)),(zg 0 (.t 0)),(zg 0 (zf 0 (.t 0))),(.eff [] none (.store 1) [(zf 0 (zf 0 (.t 0))),(.t 38)] [])]) (by kernel_rfl)|(conv=>lhs;cbv;try simp only[Kw]))
 simp only[↓reduceIte,go_sem]
 obtain⟨I,hI⟩:=kg (α:=Nat->ku->H->Prop) λi σ h'=>σ 0= .pointer (some ⟨b,0,none⟩)/\σ 8= .slice la al.length lc/\σ 9= Jx JT al.length/\σ 10= Jx JT i/\i<=al.length/\
  ∃(u':U) (vi:Value),jD (qQ b mp mc vP vC vR vF) u h u' h'/\wL k u' h' b mp mc vi vC vR vF ((al.take i).foldl ru ps) cs rs fs/\(∀j,jL vi j->jL vP j\/h.size<=j)/\((al.take i).foldl ru ps).length<=ps.length+i
 refine jE I (λi=>al.length - i) 0 (by
  rw[hI]
  exact⟨zJ,zJ,zJ,zJ,aj _,u,vP,.refl _ _ _,B,λj hj=> .inl hj,zP⟩) ?_
 intro i σ h' hy
 rw[hI]at hy
 obtain⟨e0,e8,e9,e10,hi,u',vi,st,B',hvi,hpl⟩:=hy
 by_cases hlt:i<al.length
 ·obtain⟨x,hs⟩:=qP hlt
  have hsn:=pI (f:=ru) (b:=ps) hs
  obtain⟨pi,hpi⟩:=kg ((al.take i).foldl ru ps)
  rw[<-hpi]at B' hsn hpl
  obtain⟨pb,po,rfl,hpb,hpu,hpz,hpr⟩:=(hl.mono st.ge).row i x hs
  rw[kE]at hpr
  obtain⟨pv,hpr,hpv⟩:=hpr
  obtain⟨pva,pvc,rfl,r1,r2⟩:=hpv.sl
  simp only[qK,uq,ax,aC]at hpr hpu hpz
  obtain⟨p0,p1,p2⟩:=hpr
  have sp:=jD.qZ S0 u' h' #[str x.1,.slice pva x.2.1.length pvc,Jx JT x.2.2] 51
  have X:jR (ub u' h'.size 0) (h'.push (.cells #[str x.1,.slice pva x.2.1.length pvc,Jx JT x.2.2] 51)) h'.size [str x.1,.slice pva x.2.1.length pvc,Jx JT x.2.2]:=(jR.mk zY zE zE (by repeat (first|(refine lU ?_;simp only[];done)|apply kG)) zE)
  have Bp:=B'.step sp (λ_ _ h=>h)
  obtain⟨z1,z2,z3,z4,z5,z6,z7,z8,z9⟩:=B'.open
  simp(disch:=omega) only[↓reduceIte,go_sem,e0,e8,e9,e10,hlt,p0,p1,p2,z1,z7]
  have next: ∀(σ':ku) (u3:U) (h3:H) (vj:Value),σ' 0=σ 0->σ' 8=σ 8->σ' 9=σ 9->σ' 10= Jx JT ((i:Int)+1)->jD (qQ b mp mc vP vC vR vF) u h u3 h3->wL k u3 h3 b mp mc vj vC vR vF (ru pi x) cs rs fs->(∀j,jL vj j->jL vP j\/h.size<=j)->
    ∃y,I y σ' h3/\al.length - y<al.length - i:=λσ' u3 h3 vj g0 g8 g9 g10 s3 B3 hb3=>by
   refine⟨i+1,?_,zO⟩
   rw[hI]
   have:=ad1 pi x
   exact⟨by rw[g0,e0],by rw[g8,e8],by rw[g9,e9],g10,hlt,u3,vj,s3,by rw[hsn];exact B3,hb3,by rw[hsn];omega⟩
  refine jC ⟨rfl,ub u' h'.size 0,mp,nJ (pi.map (·.1)),pi.length,x.1,rfl,Bp.mP,zO,λw hw=>⟨jO,?_⟩,λhw h2 s2 hm2=>⟨jO,?_⟩⟩
  ·have hin:x.1∈pi.map (·.1):=yo.1 (by rw[hw];rfl)
   have hnt:ru pi x=pi:=by unfold ru;rw[ah hin]
   simp(disch:=omega) only[↓reduceIte,go_sem,e10]
   exact next _ _ _ vi zJ zJ zJ zJ (st.tZ sp) (by rw[hnt];exact Bp) hvi
  ·have hin:x.1 ∉ pi.map (·.1):=λhq=>by have:=yo.2 hq;rw[hw]at this;cases this
   have hnt:ru pi x=pi++[(x.1,(x.2.1.length:Int))]:=by unfold ru;rw[af hin]
   have D:=Bp.dis
   simp only[Eg,bD,aH,cO,or_false,forall_eq_or_imp,forall_eq,List.Pairwise.nil,aC,false_imp_iff,implies_true]at D
   have Y2:=Bp.blk.step s2 D.1.1
   have hmpl:=Bp.mP.lt
   have X2:=X.step s2 (λe=>by have e:h'.size=mp:=e;have:=B'.mP.lt;omega)
   have o2:=Bp.oP.step s2 (λj hj e=>D.2.1.2.1 (by have e:j=mp:=e;rw[<-e];exact hj))
   have hk2:k<=h2.size:=aT Bp.kb (dQ Y2.1)
   have hyl:=Y2.1
   simp(disch:=first|omega|simp only[zz];try omega;done) only[↓reduceIte,go_sem,e0,X2.at,X2.2.1,Y2.at,Y2.2.1]
   refine kW rfl o2 (x:=(x.1,(x.2.1.length:Int))) (cs:=[str x.1,Jx JT x.2.1.length]) (by rw[Ak]) rfl rfl hk2 zO λa n c u3 h3 o3 s3 b3=>⟨jO,?_⟩
   have em:zt (nJ (pi.map (·.1))) x.1 (pi.length:Int)=nJ ((pi++[(x.1,(x.2.1.length:Int))]).map (·.1)):=by
    funext s
    rw[bH,aS,bK,ES hin,aU];rfl
   rw[em]at hm2
   obtain⟨B3,st3⟩:=Bp.putP s2 (by simpa using hm2) o3 s3 b3
   have y1:lS h3 b=6:=by rw[(s3.ge.hs b Y2.1).1];exact Y2.2.1
   have y2:tJ h3 b=(0,0):=by rw[(s3.ge.hs b Y2.1).2];exact Y2.2.2.1
   simp(disch:=omega) only[↓reduceIte,go_sem,e0,e10,y1,y2]
   refine next _ _ _ _ zJ zJ zJ zJ ?_ (by rw[hnt];exact B3) (λj hj=> ?_)
   ·refine(st.tZ sp).trans st3 (λj hj hB=> ?_)
    rcases hB with hB|hB|hB|hB|hB
    ·exact .inl hB
    ·exact .inr (.inl hB)
    ·exact .inr (.inr (.inl hB))
    ·exact .inr (.inr (.inr (.inl ((hvi j hB).elim id (λh=>zO)))))
    ·exact .inr (.inr (.inr (.inr hB)))
   ·have z1:=(st.tZ sp).ge.sz
    have z2:=s2.ge.sz
    rcases b3 j hj with hB|hB
    ·exact hvi j hB
    ·exact .inr zO
 ·obtain rfl:i=al.length:=zO
  rw[aK]at B'
  simp only[↓reduceIte,go_sem,e9,e10]
  exact hK _ _ _ st B' hvi
end Go.Proofs.Z
namespace Edict
variable {c:jK} {cs:List jK} {i:Nat}
def agG(c:jK):jM:=(c.1,c.2.1,c.2.2,0)
def uF(cs:List jK):List nV:=lT 0 (cs.map λc=>(agG c,(0:Int)))
theorem VE(h:cs[i]? =some c):uF (cs.take (i+1))=uF (cs.take i)++[(agG c,0,(i:Int))]:=by
 have hi:=(aB.1 h).1
 unfold uF
 rw[nU h,EN,aU,aR,iY zO]
theorem Me(cs:List jK):(uF cs).length=cs.length:=by unfold uF;rw[Aq,aU]
theorem Oa: ∀(l:List (jM×Int)) (n:Nat) {x:nV},x∈lT n l-> ∃i:Nat,l[i]? =some (x.1,x.2.1)/\x.2.2=((n+i:Nat):Int)
 |[],_,x,h=>by simp [lT]at h
 |(t,k)::l,n,x,h=>by
  rw[lT]at h
  rcases aH.1 h with rfl|h
  ·exact⟨0,rfl,zP⟩
  ·obtain⟨i,h1,h2⟩:=Oa l (n+1) h
   exact⟨i+1,by simpa using h1,by rw[h2];congr 1;omega⟩
theorem VF{α:Type}{l:List α}{x:α}(hn:l.Nodup)(h:l[i]? =some x):x ∉ l.take i:=by
 intro hm
 obtain⟨j,hj,e⟩:=fq.1 hm
 rw[aR]at hj
 rw[List.getElem_take]at e
 obtain⟨hi,e2⟩:=aB.1 h
 have:=(List.nodup_iff_pairwise_ne.1 hn)
 rw[iI]at this
 exact this j i zO hi zO (by rw[e,e2])
theorem Al(hn:cs.Nodup){x:nV}(h:x∈uF cs):jU x.1∈cs/\x.2.2=wK cs (jU x.1):=by
 obtain⟨i,h1,h2⟩:=Oa _ 0 h
 rw[bL]at h1
 cases hc:cs[i]? with
 |none=>rw[hc]at h1;cases h1
 |some c=>
  rw[hc]at h1
  simp only[bn,aQ,dB]at h1
  have hx:jU x.1=c:=by rw[<-h1.1];rfl
  have hm:=aF hc
  rw[hx]
  refine⟨hm,?_⟩
  rw[h2,<-Yv hm,yg (VF hn hc) hc,bJ]
theorem ZZ(h:c∈cs): ∃x∈uF cs,jU x.1=c:=by
 have:c∈(uF cs).map λx=>jU x.1:=by
  have e:(uF cs).map (λx=>jU x.1)=cs:=by
   have:=bA (List.map jU) (Ar (cs.map λc=>(agG c,(0:Int))) 0)
   rw[eG,eG,eG]at this
   unfold uF
   refine this.trans ?_
   exact gV _
  rw[e];exact h
 obtain⟨x,hx,e⟩:=bF.1 this
 exact⟨x,hx,e⟩
theorem adp(cs:List jK):(uF cs).Pairwise λx y=>x.2.2<y.2.2:=Oh _ _
theorem agH(hn:cs.Nodup){r:List nV}(hr:yl false (uF cs) r):r.Pairwise λx y=>uh (jU x.1) (jU y.1)<0:=by
 refine List.Pairwise.imp_of_mem (fun{x y} hx hy h=> ?_) hr.2
 rcases BF.1 h with h|⟨h1,h2⟩
 ·exact h
 ·exfalso
  have e1:=(Al hn (hr.1.mem_iff.1 hx)).2
  have e2:=(Al hn (hr.1.mem_iff.1 hy)).2
  rw[vg.1 h1]at e1
  omega
end Edict
namespace Go.Proofs.Z
open Go Go.Ev Edict
variable {vs:List Value} {h:H} {K:Value->H->Prop} {KP:List PanicEntry->H->Prop}
structure Am (u:U) (h:H) (b:Nat) (cs:List jK):Prop where
 ex: ∃va vi L I,jR u h b [va,vi]/\jS u h va L/\jS u h vi I/\L.length=I.length/\L.length<=1000000/\(L.Pairwise λx y:jK=>uh x y<0)/\(∀(i:Nat) (c:jK) (n:Int),L[i]? =some c->I[i]? =some n->n=wK cs c)/\(∀c∈cs,c∈L)/\ ∀c∈L,c.2.2.length<=9223372036854775807
theorem Am.sZ{u u':U}{h h':H}{b:Nat}{cs:List jK}(k:Am u h b cs)(s:jD S0 u h u' h'):Am u' h' b cs:=by
 obtain⟨va,vi,L,I,h1,h2,h3,h4⟩:=k.ex
 exact⟨va,vi,L,I,h1.sZ s,h2.mono s.ge,h3.mono s.ge,h4⟩
theorem Am.step{S:Nat->Prop}{u u':U}{h h':H}{b:Nat}{cs:List jK}(k:Am u h b cs)(s:jD S u h u' h')(hn: ¬S b):Am u' h' b cs:=by
 obtain⟨va,vi,L,I,h1,h2,h3,h4⟩:=k.ex
 exact⟨va,vi,L,I,h1.step s hn,h2.mono s.ge,h3.mono s.ge,h4⟩
def ajg(vs:List Value)(h:H)(K:Value->H->Prop):Prop:= ∃(u:U) (b:Nat) (cs:List jK) (c:jK),vs=[.pointer (some ⟨b,0,none⟩),.agg (jK.enc c).toArray]/\Am u h b cs/\c∈cs/\ ∀u' h',jD S0 u h u' h'->K (Jx JT (wK cs c)) h'
def ajh:lq:=λf vs h K _=>f=107/\VR vs h K
theorem aaa:lQ Tryz.prog ajh:=by
 rintro f vs h K KP ⟨rfl,hC⟩;exact DN hC
theorem Yp(hC:ajg vs h K):kN Tryz.prog 83 vs h K KP:=by
 obtain⟨u,b,cs,c,rfl,hB,hc,hK⟩:=hC
 obtain⟨va,vi,L,I,hb,hL,hI',hlen,hmax,hup,hid,hall,htx⟩:=hB.ex
 obtain⟨la,lc,rfl,q1,q2⟩:=hL.sl
 obtain⟨ia,ic,rfl,q3,q4⟩:=hI'.sl
 have hm:=lC
 obtain⟨p,hp⟩: ∃p:Nat,L[p]? =some c:=by
  obtain⟨i,hi,e⟩:=fq.1 (hall c hc)
  exact⟨i,by rw[bf hi,e]⟩
 have hpl:=(aB.1 hp).1
 have hbl:=hb.1
 refine jJ 1101659177467 [(none,(.t 4))] aaa Tryz.func83 ?_
 simp(disch:=first|omega|simp only[zz];try omega;done) only[↓reduceIte,go_sem,jK.enc,hb.at,hb.2.1]
 have s1:=jD.qZ S0 u h #[Jx JT c.1,Jx JT c.2.1,str c.2.2] 108
 have B1:=jR.newc (u:=u) (h:=h) [Jx JT c.1,Jx JT c.2.1,str c.2.2] 108
 have b1:=hb.sZ s1
 obtain⟨J,hJ⟩:=kg (α:=Nat×Nat->ku->H->Prop) λx σ h'=>σ 0= .pointer (some ⟨b,0,none⟩)/\σ 3= .pointer (some ⟨h.size,0,none⟩)/\σ 5= Jx JT x.1/\σ 6= Jx JT x.2/\x.1<=p/\p<x.2/\x.2<=L.length/\ ∃u',jD S0 u h u' h'/\jR u' h' h.size [Jx JT c.1,Jx JT c.2.1,str c.2.2]
 refine jE J (λx=>x.2 - x.1) (0,L.length) (by rw[hJ];exact⟨zJ,zJ,zJ,zJ,aj _,hpl,ak _,_,s1,B1⟩) ?_
 rintro ⟨lo,hi⟩ σ h' hy
 rw[hJ]at hy
 simp only at hy
 obtain⟨e0,e3,e5,e6,hlo,hhi,hhl,u',st,X⟩:=hy
 have B:=hb.sZ st
 have bl:=B.1
 have xl:=X.1
 obtain⟨m,hmd⟩: ∃m:Nat,((lo:Int)+hi) / 2=m:=⟨(lo+hi) / 2,zO⟩
 have hm1:lo<=m/\m<hi:=zO
 have hml:m<L.length:=zO
 obtain⟨x,hx⟩: ∃x,L[m]? =some x:=⟨L[m],by rw[bf hml]⟩
 obtain⟨pb,po,hpe,hpb,hpu,hpz,hpr⟩:=(hL.mono st.ge).row m x hx
 subst hpe
 simp only[mZ,EG,uq,ax,aC]at hpr hpu hpz
 obtain⟨p0,p1,p2⟩:=hpr
 have hlt:(lo:Int)<hi:=zO
 simp(disch:=first|omega|simp only[zz];try omega;done) only[↓reduceIte,go_sem,e0,e3,e5,e6,ai hlt,Yq,hmd,B.at,B.2.1,X.at,X.2.1,hml,p0,p1,p2]
 refine jC ⟨rfl,u',x,c,rfl,htx x (aF hx),λu2 h2 s2=>⟨jO,?_⟩⟩
 have st2:=st.tZ s2
 have B2:=hb.sZ st2
 have X2:=X.sZ s2
 have b2l:=B2.1
 by_cases h0:uh x c=0
 ·have hxc:=vg.1 h0
  subst hxc
  have hmi:m<I.length:=zO
  obtain⟨n,hn⟩: ∃n,I[m]? =some n:=⟨I[m],by rw[bf hmi]⟩
  obtain⟨qb,qo,hqe,hqb,hqu,hqz,hqr⟩:=(hI'.mono st2.ge).row m n hn
  subst hqe
  simp only[mG,abF,qR,ax,aC]at hqr hqu hqz
  have:=hid m x n hx hn
  simp(disch:=first|omega|simp only[zz];try omega;done) only[↓reduceIte,go_sem,ai h0,e0,B2.at,B2.2.1,hmi,hqr]
  rw[this]
  exact hK _ _ st2
 ·have hne:m≠p:=λe=>h0 (by
   subst e
   rw[hx]at hp
   exact vg.2 (bR hp))
  rw[iI]at hup
  obtain⟨hpl',ep⟩:=aB.1 hp
  obtain⟨hml',em⟩:=aB.1 hx
  by_cases hneg:uh x c<0
  ·have hmp:m<p:=by
    rcases gp m p with h|h
    ·exact h
    ·have:=hup p m hpl' hml' zO
     rw[ep,em,ER x c]at this;omega
   simp(disch:=omega) only[↓reduceIte,go_sem,ae h0,ai hneg]
   refine⟨(m+1,hi),?_,by simp only;omega⟩
   rw[hJ]
   exact⟨by simp [jI,e0],by simp [jI,e3],zJ,by simp [jI,e6],hmp,hhi,hhl,u2,st2,X2⟩
  ·have hmp:p<m:=by
    rcases gp p m with h|h
    ·exact h
    ·have:=hup m p hml' hpl' zO
     rw[ep,em]at this;omega
   simp only[↓reduceIte,go_sem,ae h0,ae hneg]
   refine⟨(lo,m),?_,by simp only;omega⟩
   rw[hJ]
   exact⟨by simp [jI,e0],by simp [jI,e3],by simp [jI,e5],zJ,hlo,hmp,zO,u2,st2,X2⟩
def adq(vs:List Value)(h:H)(K:Value->H->Prop):Prop:= ∃(u:U) (v:Value) (cs:List jK),vs=[v]/\jS u h v cs/\cs.length<=65536/\cs.Nodup/\(∀c∈cs,c.2.2.length<=9223372036854775807)/\ ∀u' h' b,jD S0 u h u' h'->h.size<=b->Am u' h' b cs->K (.pointer (some ⟨b,0,none⟩)) h'
def adr:lq:=λf vs h K _=>(f=81/\ ∃n,DK n vs h K)\/(f=40/\Cv vs h K)
theorem Rt:lQ Tryz.prog adr:=by
 rintro f vs h K KP (⟨rfl,n,hC⟩|⟨rfl,hC⟩)
 ·exact FK n hC
 ·exact ug hC
theorem aab(hC:adq vs h K):kN Tryz.prog 41 vs h K KP:=by
 obtain⟨u,v,cs,rfl,hl,hcl,hnd,htx,hK⟩:=hC
 obtain⟨la,lc,rfl,q1,q2⟩:=hl.sl
 have hm:=lC
 refine jJ 2199023256701 [(none,(.t 2))] Rt Tryz.func41 ?_ (by kernel_rfl) (by apply c0 rfl;repeat' first|apply cS|apply cK|apply cL|apply cX|(apply cC zD)|with_reducible exact cV 5 (.sts [(zx 3 (.t 0) (.t 4)),(zg 0 (zi 3 (.t 0) (.t 4))),(zh (zf 0 (zi 3 (.t 0) (.t 4)))),(zx 3 (.t 0) (.t 4)),(zg 1 (zi 3 (.t 0) (.t 4))),(zh (zf 1 (zi 3 (.t 0) (.t 4)))),(zx 3 (.t 0) (.t 4)),(zg 2 (zi 3 (.t 0) (.t 4))),(zh (zf 2 (zi 3 (.t 0) (.t 4)))),(.chk [] (.cb 4 [(0,(1,(zl (zf 0 (zi 3 (.t 0) (.t 4)))))),(1,(1,(zl (zf 1 (zi 3 (.t 0) (.t 4)))))),(2,(1,(zl (zf 2 (zi 3 (.t 0) (.t 4))))))])),(.chk [] (.cb 6 [(0,(4,(.o2 (.put 2 1) (.o2 (.put 1 1) (.o2 (.put 0 1) (.c (.agg #[(Jx JT 0),(Jx JT 0),(str []),(Jx JT 0)])) (zl (zf 0 (zi 3 (.t 0) (.t 4))))) (zl (zf 1 (zi 3 (.t 0) (.t 4))))) (zl (zf 2 (zi 3 (.t 0) (.t 4))))))),(5,(1,(.t 4)))])),(.set 31 (.o2 (.put 5 1) (.o2 (.put 0 4) (.c (.agg #[(Jx JT 0),(Jx JT 0),(str []),(Jx JT 0),(Jx JT 0),(Jx JT 0)])) (.o2 (.put 2 1) (.o2 (.put 1 1) (.o2 (.put 0 1) (.c (.agg #[(Jx JT 0),(Jx JT 0),(str []),(Jx JT 0)])) (zl (zf 0 (zi 3 (.t 0) (.t 4))))) (zl (zf 1 (zi 3 (.t 0) (.t 4))))) (zl (zf 2 (zi 3 (.t 0) (.t 4)))))) (.t 4))),(.eff [] (some 32) (.bsl 106 6 1 [(Jx JT 0),(Jx JT 0),(str []),(Jx JT 0),(Jx JT 0),(Jx JT 0)] [0]) [(.t 31)] []),(.eff [] (some 33) (.app 106 6 56 [(Jx JT 0),(Jx JT 0),(str []),(Jx JT 0),(Jx JT 0),(Jx JT 0)]) [(.t 3),(.t 32)] []),(.set 3 (.t 33))]) (by kernel_rfl)|with_reducible exact cV 11 (.sts [(zk .nilck (.t 5)),(zg 0 (.t 5)),(zh (zf 0 (.t 5))),(zx 6 (.t 3) (.t 6)),(zg 0 (zi 6 (.t 3) (.t 6))),(zk (.ldn 4) (zf 0 (zi 6 (.t 3) (.t 6)))),(.set 53 (.o1 (.ldn 4) (zf 0 (zi 6 (.t 3) (.t 6))))),(.set 48 (zl (zf 0 (.t 5)))),(.eff [] (some 54) (.call 40) [(.t 53)] [([],((zf 0 (.t 5)),none))]),(.eff [] (some 55) (.bsl 108 3 1 [(Jx JT 0),(Jx JT 0),(str [])] [0]) [(.t 54)] [([],((zf 0 (.t 5)),none))]),(.eff [] (some 56) (.app 108 3 32 [(Jx JT 0),(Jx JT 0),(str [])]) [(.t 48),(.t 55)] []),(zk .nilck (.t 5)),(zg 0 (.t 5)),(.eff [] none (.store 1) [(zf 0 (.t 5)),(.t 56)] [])]) (by kernel_rfl)|with_reducible exact cV 12 (.sts [(zk .nilck (.t 5)),(zg 1 (.t 5)),(zh (zf 1 (.t 5))),(zx 6 (.t 3) (.t 6)),(zg 5 (zi 6 (.t 3) (.t 6))),(zh (zf 5 (zi 6 (.t 3) (.t 6)))),(.set 68 (zl (zf 5 (zi 6 (.t 3) (.t 6))))),(.set 63 (zl (zf 1 (.t 5)))),(.eff [] (some 69) (.bsl 3 1 1 [(Jx JT 0)] [0]) [(.t 68)] [([],((zf 1 (.t 5)),none))]),(.eff [] (some 70) (.app 3 1 8 [(Jx JT 0)]) [(.t 63),(.t 69)] []),(zk .nilck (.t 5)),(zg 1 (.t 5)),(.eff [] none (.store 1) [(zf 1 (.t 5)),(.t 70)] [])]) (by kernel_rfl)|(conv=>lhs;cbv;try simp only[Kw]))
 simp only[go_sem]
 obtain⟨I,hI⟩:=kg (α:=Nat->ku->H->Prop) λi σ h'=>σ 0= .slice la cs.length lc/\σ 4= Jx JT i/\i<=cs.length/\ ∃u',jD S0 u h u' h'/\lm h.size u' h' (σ 3) (uF (cs.take i))
 refine jE I (λi=>cs.length - i) 0 (by rw[hI];exact⟨zJ,zJ,aj _,u,.refl _ _ _,by simp only[jI];exact .nil _ _ _⟩) ?_
 intro i σ h' hy
 rw[hI]at hy
 obtain⟨e0,e4,hi,u',st,ho⟩:=hy
 by_cases hlt:i<cs.length
 ·obtain⟨x,hs⟩:=qP hlt
  obtain⟨pb,po,rfl,hpb,hpu,hpz,hpr⟩:=(hl.mono st.ge).row i x hs
  simp only[mZ,EG,uq,ax,aC]at hpr hpu hpz
  obtain⟨p0,p1,p2⟩:=hpr
  have hbl:(uF (cs.take i)).length<=i:=by rw[Me,aR];exact eO _ _
  have hrx:Rep.rep u' h' ((agG x,0,(i:Int)):nV) [Jx JT x.1,Jx JT x.2.1,str x.2.2,Jx JT 0,Jx JT 0,Jx JT i]:=by rw[ni];rfl
  simp(disch:=omega) only[↓reduceIte,go_sem,e0,e4,hlt,p0,p1,p2]
  refine lM (e':=106) (cs:=[Jx JT x.1,Jx JT x.2.1,str x.2.2,Jx JT 0,Jx JT 0,Jx JT i]) ho hrx rfl rfl st.ge.sz zO λa n c u3 h3 ho3 s3=>⟨jO,?_⟩
  simp(disch:=omega) only[↓reduceIte,go_sem,e4]
  refine⟨i+1,?_,zO⟩
  rw[hI]
  exact⟨by simp [jI,e0],zJ,hlt,u3,st.own s3 λj hj=>ho.ge hj,by rw[VE hs];simpa [jI]using ho3⟩
 ·obtain rfl:i=cs.length:=zO
  rw[aK]at ho
  have hdl:wH (uF cs):=(adp cs).imp λh e=>zO
  have hbl:=Me cs
  have hsl:=ho.iZ
  obtain⟨sa,sc,hσ3,-,-⟩:=ho.sl
  rw[hσ3]at hsl
  have htxB:adu (uF cs):=λx hx=>htx (jU x.1) (Al hnd hx).1
  simp only[↓reduceIte,go_sem,e0,e4,hσ3]
  refine jC (.inl ⟨rfl,_,u',_,false,uF cs,rfl,hsl,ak _,zO,hdl,htxB,λu2 h2 w2 s s2 hs2 hw2=>⟨jO,?_⟩⟩)
  have st2:=st.tZ s2
  have hsn:=hs2.1.length_eq
  obtain⟨wa,wc,rfl,-,-⟩:=hw2.sl
  have sp:=jD.qZ S0 u2 h2 #[.slice none 0 0,.slice none 0 0] 170
  have Bb:=jR.newc (u:=u2) (h:=h2) [.slice none 0 0,.slice none 0 0] 170
  have stp:=st2.tZ sp
  have hz2:=st2.ge.sz
  simp only[↓reduceIte,go_sem,jN]
  clear hI I
  obtain⟨J,hJ⟩:=kg (α:=Nat->ku->H->Prop) λi σ h'=>σ 3= .slice wa s.length wc/\σ 5= .pointer (some ⟨h2.size,0,none⟩)/\σ 6= Jx JT i/\i<=s.length/\ ∃u' va vi,jD S0 u h u' h'/\jS u' h' (.slice wa s.length wc) s/\jR u' h' h2.size [va,vi]/\h2.size+1<=h'.size/\lm (h2.size+1) u' h' va ((s.take i).map λx=>jU x.1)/\lm (h2.size+1) u' h' vi ((s.take i).map λx=>x.2.2)/\ ∀j,jL va j-> ¬jL vi j
  refine jE J (λi=>s.length - i) 0 (by rw[hJ];exact⟨zJ,zJ,zJ,aj _,_,_,_,stp,hw2.mono sp.ge,Bb,zY,.nil _ _ _,.nil _ _ _,λj hj=>by obtain⟨_,_,_,e⟩:=hj;cases e⟩) ?_
  clear e0 e4 ho st hsl hσ3
  intro j τ h7 hy
  rw[hJ]at hy
  obtain⟨f3,f5,f6,hj,u7,va,vi,st7,iS,B7,hz7,oa,oi,hdis⟩:=hy
  obtain⟨aa,ac,rfl,-,-⟩:=oa.sl
  obtain⟨ia,ic,rfl,-,-⟩:=oi.sl
  have b7l:=B7.1
  by_cases hjl:j<s.length
  ·obtain⟨x,hx⟩:=qP hjl
   obtain⟨pb,po,hpe,hpb,hpu,hpz,hpr⟩:=iS.row j x hx
   subst hpe
   simp only[ni,nV.enc,sO,qU,ax,aC]at hpr hpu hpz
   obtain⟨p0,p1,p2,p3,p4,p5⟩:=hpr
   have hla:((s.take j).map λx=>jU x.1).length<=j:=by rw[aU,aR];exact eO _ _
   have hli:((s.take j).map λx=>x.2.2).length<=j:=by rw[aU,aR];exact eO _ _
   simp(disch:=first|omega|simp only[zz];try omega;done) only[↓reduceIte,go_sem,f3,f5,f6,hjl,p0,p1,p2,p3,B7.at,B7.2.1]
   refine jC (.inr ⟨rfl,u7,x.1,rfl,λu8 h8 s8=> ?_⟩)
   have B8:=B7.sZ s8
   have oa8:=oa.sZ s8
   have oi8:=oi.sZ s8
   have iS8:=iS.mono s8.ge
   have hz8:=s8.ge.sz
   have st8:=st7.tZ s8
   have b8l:=B8.1
   refine⟨by simp(disch:=first|omega|simp only[zz];try omega;done) only[↓reduceIte,go_sem,f5,B8.at,B8.2.1,B7.at],?_⟩
   have hrc:Rep.rep u8 h8 (jU x.1) [Jx JT x.1.1,Jx JT x.1.2.1,str x.1.2.2.1]:=by rw[mZ];rfl
   have hce:(jK.enc (jU x.1)).toArray= #[Jx JT x.1.1,Jx JT x.1.2.1,str x.1.2.2.1]:=rfl
   have htk: ∀{β:Type} (f:nV->β),(s.take (j+1)).map f=(s.take j).map f++[f x]:=λf=>nU hx
   have hJA:=htk λx=>jU x.1
   have hJI:=htk λx=>x.2.2
   obtain⟨A,hA⟩:=kg ((s.take j).map λx=>jU x.1)
   obtain⟨D,hD⟩:=kg ((s.take j).map λx=>x.2.2)
   rw[<-hA]at hla oa oa8 B7 B8 hdis hJA ⊢
   rw[<-hD]at hli oi oi8 B7 B8 hdis hJI
   simp(disch:=first|omega|simp only[zz];try omega;done) only[↓reduceIte,go_sem,f5,hce,B8.at,B8.2.1]
   refine kW (e':=108) (cs:=[Jx JT x.1.1,Jx JT x.1.2.1,str x.1.2.2.1]) rfl oa8 hrc rfl rfl zO zO λa9 n9 c9 u9 h9 o9 s9 w9=>⟨jO,?_⟩
   have B9:=B8.step s9 λhj=>by have:=oa8.ge hj;omega
   have i9:=oi8.step s9 λb hb hb2=>hdis b hb2 hb
   have iS9:=iS8.mono s9.ge
   have st9:=st8.own s9 λj hj=>by have:=oa8.ge hj;omega
   have hz9:=s9.ge.sz
   have b9l:=B9.1
   obtain⟨xa9,xc9,hx9,-,-⟩:=o9.sl
   cases hx9
   have sw:=B9.stepSet (i:=0) (v:= .slice a9 (A++[jU x.1]).length c9)
   have B10:=B9.set (i:=0) (v:= .slice a9 (A++[jU x.1]).length c9) zP
   have o10:=o9.step sw λb hb e=>by have e:b=h2.size:=e;have:=o9.ge hb;omega
   have i10:=i9.step sw λb hb e=>by have e:b=h2.size:=e;have:=i9.ge hb;omega
   have iS10:=iS9.mono sw.ge
   have st10:=st9.own sw λj e=>by have e:j=h2.size:=e;omega
   have hz10:=sw.ge.sz
   simp(disch:=first|omega|simp only[zz];try omega;done) only[↓reduceIte,go_sem,f5,B9.2.1,B9.2.2.1]
   obtain⟨h10,hh10⟩:=kg (ky h9 h2.size 0 (.slice a9 (A++[jU x.1]).length c9))
   have hle:(A++[jU x.1]).length=A.length+1:=by rw[ay];rfl
   rw[<-hh10]at sw B10 o10 i10 iS10 st10 hz10
   have B10:jR u9 h10 h2.size [.slice a9 (A++[jU x.1]).length c9,.slice ia D.length ic]:=B10
   have hzz:h9.size=h10.size:=by rw[hh10,wS]
   rw[hle]at hh10
   have b10l:=B10.1
   obtain⟨pb',po',hpe,hpb,hpu,hpz,hpr⟩:=iS10.row j x hx
   simp only[aQ,Addr.mk.injEq,aC]at hpe
   obtain⟨rfl,rfl⟩:=hpe
   simp only[ni,nV.enc,sO,qU,ax,aC]at hpr hpu hpz
   obtain⟨g0,g1,g2,g3,g4,g5⟩:=hpr
   have hri:Rep.rep u9 h10 x.2.2 [Jx JT x.2.2]:=by rw[mG]
   simp(disch:=first|omega|simp only[zz];try omega;done) only[go_sem,<-hh10,f3,f6,hjl,g5,B10.at]
   refine kW (e':=3) (cs:=[Jx JT x.2.2]) hzz i10 hri rfl rfl zO zO λa11 n11 c11 u11 h11 o11 s11 w11=>⟨jO,?_⟩
   have B11:=B10.step s11 λhj=>by have:=i10.ge hj;omega
   have d10: ∀b,jL (.slice a9 (A++[jU x.1]).length c9) b-> ¬jL (.slice ia D.length ic) b:=λb hb hb2=>by
    rcases w9 b hb with h|h
    ·exact hdis b h hb2
    ·have:=oi8.lt hb2;omega
   have c11':=o10.step s11 d10
   have iS11:=iS10.mono s11.ge
   have st11:=st10.own s11 λj hj=>by have:=i10.ge hj;omega
   have hz11:=s11.ge.sz
   have b11l:=B11.1
   obtain⟨xa11,xc11,hx11,-,-⟩:=o11.sl
   cases hx11
   have sw:=B11.stepSet (i:=1) (v:= .slice a11 (D++[x.2.2]).length c11)
   have B12:jR u11 (ky h11 h2.size 1 (.slice a11 (D++[x.2.2]).length c11)) h2.size [.slice a9 (A++[jU x.1]).length c9,.slice a11 (D++[x.2.2]).length c11]:=B11.set (i:=1) (v:= .slice a11 (D++[x.2.2]).length c11) zP
   have o12:=c11'.step sw λb hb e=>by have e:b=h2.size:=e;have:=c11'.ge hb;omega
   have i12:=o11.step sw λb hb e=>by have e:b=h2.size:=e;have:=o11.ge hb;omega
   have iS12:=iS11.mono sw.ge
   have st12:=st11.own sw λj e=>by have e:j=h2.size:=e;omega
   have hz12:=sw.ge.sz
   have hld:(D++[x.2.2]).length=D.length+1:=by rw[ay];rfl
   simp(disch:=omega) only[↓reduceIte,go_sem,f5,f6,B11.2.1,B11.2.2.1]
   refine⟨j+1,?_,zO⟩
   rw[hJ]
   rw[<-hld]
   refine⟨by simp [jI,f3],by simp [jI,f5],zJ,hjl,u11,.slice a9 (A++[jU x.1]).length c9,.slice a11 (D++[x.2.2]).length c11,st12,iS12,B12,zO,by rw[hJA];exact o12,by rw[hJI];exact i12,?_⟩
   intro b hb hb2
   rcases w11 b hb2 with h|h
   ·exact d10 b hb h
   ·have:=o10.lt hb;omega
  ·obtain rfl:j=s.length:=zO
   rw[aK]at oa oi B7 hdis
   simp only[↓reduceIte,go_sem,f3,f5,f6]
   refine hK _ _ h2.size st7 hz2 ⟨_,_,_,_,B7,oa.iZ,oi.iZ,by rw[aU,aU],by rw[aU];omega,?_,?_,?_,?_⟩
   ·rw[List.pairwise_map];exact agH hnd hs2
   ·intro i c n hc hn
    rw[bL]at hc hn
    cases hx:s[i]? with
    |none=>rw[hx]at hc;cases hc
    |some x=>
     rw[hx]at hc hn
     cases hc
     cases hn
     exact(Al hnd (hs2.1.mem_iff.1 (aF hx))).2
   ·intro c hc
    obtain⟨x,hx,e⟩:=ZZ hc
    exact bF.2 ⟨x,hs2.1.mem_iff.2 hx,e⟩
   ·intro c hc
    obtain⟨x,hx,rfl⟩:=bF.1 hc
    exact htx _ (Al hnd (hs2.1.mem_iff.1 hx)).1
end Go.Proofs.Z
namespace Go.Proofs.Z
open Go Go.Ev Edict
variable {vs:List Value} {h:H} {K:Value->H->Prop} {KP:List PanicEntry->H->Prop}
def Rn(vs:List Value)(h:H)(K:Value->H->Prop):Prop:= ∃(u:U) (v:Value) (l:lN) (s:List UInt8),vs=[v,str s]/\jS u h v l/\K (Jx JT (EP l s)) h
theorem Ro(hC:Rn vs h K):kN Tryz.prog 108 vs h K KP:=by
 obtain⟨u,v,l,s,rfl,hl,hK⟩:=hC
 obtain⟨la,lc,rfl,q1,q2⟩:=hl.sl
 have hm:=lC
 refine jJ 131635 [(none,(.t 4))] (G:=(λ_ _ _ _ _=>False)) (λ_ _ _ _ _ h=>h.elim) Tryz.func108 ?_
 simp only[go_sem]
 obtain⟨I,hI⟩:=kg (α:=Nat->ku->H->Prop) λi σ h'=>σ 0= .slice la l.length lc/\σ 1=str s/\σ 5= Jx JT i/\i<=l.length/\s ∉ l.take i/\h'=h
 refine jE I (λi=>l.length - i) 0 (by rw[hI];exact⟨zJ,zJ,zJ,aj _,zP,rfl⟩) ?_
 intro i σ h' hy
 rw[hI]at hy
 obtain⟨e0,e1,e5,hi,hno,rfl⟩:=hy
 by_cases hlt:i<l.length
 ·obtain⟨x,hs⟩:=qP hlt
  obtain⟨pb,po,rfl,hpb,hpu,hpz,hpr⟩:=hl.row i x hs
  simp only[mE,He,qR,ax,aC]at hpr hpu hpz
  by_cases he:x=s
  ·simp(disch:=omega) only[↓reduceIte,go_sem,e0,e1,e5,hlt,hpr,ai he]
   have:EP l s=i:=yg hno (by rw[hs,he])
   rw[this]at hK;exact hK
  ·simp(disch:=omega) only[↓reduceIte,go_sem,e0,e1,e5,hlt,hpr,ae he]
   refine⟨i+1,?_,zO⟩
   rw[hI]
   refine⟨by simp [jI,e0],by simp [jI,e1],zJ,hlt,?_,rfl⟩
   rw[aX,hs,bC,aV,aY]
   rintro (h|h)
   ·exact hno h
   ·exact he h.symm
 ·obtain rfl:i=l.length:=zO
  rw[aK]at hno
  simp only[↓reduceIte,go_sem,e0,e5]
  rw[Jr hno]at hK;exact hK
structure FrB (u:U) (h:H) (f:Nat) (ps:List kK) (cs:List jK):Prop where
 ex: ∃vps b,jR u h f [vps,.pointer (some ⟨b,0,none⟩)]/\jS u h vps ps/\Am u h b cs
theorem FrB.sZ{u u':U}{h h':H}{f:Nat}{ps:List kK}{cs:List jK}(k:FrB u h f ps cs)(s:jD S0 u h u' h'):FrB u' h' f ps cs:=by
 obtain⟨vps,b,h1,h2,h3⟩:=k.ex
 exact⟨vps,b,h1.sZ s,h2.mono s.ge,h3.sZ s⟩
def uL.enc(s:uL):List Value:=[.bool s.1,Jx JT s.2]
def NZ(vs:List Value)(h:H)(K:Value->H->Prop):Prop:= ∃(u:U) (f:Nat) (ps:List kK) (cs:List jK) (t:jM) (v:Value) (V:lN),vs=[.pointer (some ⟨f,0,none⟩),.agg (jM.enc t).toArray,v]/\FrB u h f ps cs/\jS u h v V/\(t.1≠4->jU t∈cs)/\ ∀u' h',jD S0 u h u' h'->K (.agg (uL.enc (qE cs V t)).toArray) h'
def ado:lq:=λf vs h K _=>(f=108/\Rn vs h K)\/(f=40/\Cv vs h K)\/(f=83/\ajg vs h K)
theorem Rq:lQ Tryz.prog ado:=lY Ro (lY ug (pX Yp))
theorem EJ(hC:NZ vs h K):kN Tryz.prog 86 vs h K KP:=by
 obtain⟨u,f,ps,cs,t,v,V,rfl,hF,hV,hc,hK⟩:=hC
 obtain⟨va,vc,rfl,q1,q2⟩:=hV.sl
 refine jJ 599 [((some (.c1 (.ldn 2) (.t 6))),(.o1 (.ldn 2) (.t 6)))] Rq Tryz.func86 ?_
 have s1:=jD.qZ S0 u h #[Jx JT t.1,Jx JT t.2.1,str t.2.2.1,Jx JT t.2.2.2] 74
 have B1:=jR.newc (u:=u) (h:=h) [Jx JT t.1,Jx JT t.2.1,str t.2.2.1,Jx JT t.2.2.2] 74
 have s2:=jD.qZ S0 (ub u h.size 0) (h.push (.cells #[Jx JT t.1,Jx JT t.2.1,str t.2.2.1,Jx JT t.2.2.2] 74)) #[.bool false,Jx JT 0] 158
 have B2:=jR.newc (u:=ub u h.size 0) (h:=h.push (.cells #[Jx JT t.1,Jx JT t.2.1,str t.2.2.1,Jx JT t.2.2.2] 74)) [.bool false,Jx JT 0] 158
 have B1:=B1.sZ s2
 have st2:=s1.tZ s2
 have F2:=hF.sZ st2
 obtain⟨u2,hu2⟩:=kg (ub (ub u h.size 0) (h.push (.cells #[Jx JT t.1,Jx JT t.2.1,str t.2.2.1,Jx JT t.2.2.2] 74)).size 0)
 rw[<-hu2]at s2 B1 B2 st2 F2
 have b1l:=B1.1
 have b2l:=B2.1
 simp only[kw]at B2 b2l
 obtain⟨vps,b,hFb,hFp,hFB⟩:=hF.ex
 have hfl:=hFb.1
 by_cases h4:t.1=4
 ·have hs:qE cs V t=(true,EP V t.2.2.1):=by unfold qE;rw[ah h4]
  simp(disch:=first|omega|simp only[zz];try omega;done) only[↓reduceIte,go_sem,jM.enc,ai h4]
  refine jC (.inl ⟨rfl,u2,_,V,t.2.2.1,rfl,hV.mono st2.ge,zE,?_⟩)
  have hK':=hK _ _ (s1.tZ (jD.qZ S0 (ub u h.size 0) (h.push (.cells #[Jx JT t.1,Jx JT t.2.1,str t.2.2.1,Jx JT t.2.2.2] 74)) #[.bool true,Jx JT (EP V t.2.2.1)] 158))
  rw[hs]at hK'
  simp only[↓reduceIte,go_sem,jN]
  exact hK'
 ·have hs:qE cs V t=(false,wK cs (jU t)):=by unfold qE;rw[af h4]
  simp(disch:=first|omega|simp only[zz];try omega;done) only[↓reduceIte,go_sem,jM.enc,ae h4,hFb.at,hFb.2.1]
  refine jC (.inr (.inl ⟨rfl,u2,t,rfl,λu3 h3 s3=> ?_⟩))
  have st3:=st2.tZ s3
  have F3:=hFb.sZ st3
  have B3:=B2.sZ s3
  have f3l:=F3.1
  have b3l:=B3.1
  refine⟨by simp(disch:=first|omega|simp only[zz];try omega;done) only[↓reduceIte,go_sem,F3.at,F3.2.1,hFb.at],?_⟩
  simp only[↓reduceIte,go_sem,jN]
  refine jC (.inr (.inr ⟨rfl,u3,b,cs,jU t,rfl,hFB.sZ st3,hc h4,λu4 h4' s4=>⟨jO,?_⟩⟩))
  have B4:=B3.sZ s4
  have b4l:=B4.1
  have b9:=B4.sets (l:=[.bool false,Jx JT (wK cs (jU t))]) rfl
  have sw:=B4.stepSets (l:=[.bool false,Jx JT (wK cs (jU t))]) rfl
  have hK':=hK _ _ ((st3.tZ s4).own sw λj e=>by have e:j=h.size+1:=e;omega)
  rw[hs]at hK'
  simp(disch:=first|omega|simp only[zz];try omega;done) only[↓reduceIte,go_sem,B4.2.1,B4.2.2.1,b9.at,b9.2.1]
  exact hK'
def akT(u0:U)(h0:H)(f a r p:Nat)(ac:List Value)(pid:Int)(σ:ku)(u':U)(h':H):Prop:=jD S0 u0 h0 u' h'/\σ 0= .pointer (some ⟨f,0,none⟩)/\σ 4= .pointer (some ⟨a,0,none⟩)/\σ 6= .pointer (some ⟨r,0,none⟩)/\σ p= .pointer (some ⟨h0.size+2,0,none⟩)/\h'.size=h0.size+3/\jR u' h' a ac/\jR u' h' r [Jx JT 0,.slice none 0 0]/\jR u' h' (h0.size+2) [Jx JT pid,.slice none 0 0]
def EK(vs:List Value)(h:H)(K:Value->H->Prop):Prop:= ∃(u:U) (f:Nat) (ps:List kK) (cs:List jK) (a:kZ) (l:List Value) (v:Value) (V:lN),vs=[.pointer (some ⟨f,0,none⟩),.agg l.toArray,v]/\Rep.rep u h a l/\FrB u h f ps cs/\jS u h v V/\a.2.1.length<=1000000/\(∀t∈a.2.1,t.1≠4->jU t∈cs)/\ ∀u' h' l',jD S0 u h u' h'->Rep.rep u' h' (Oi ps cs V a) l'->K (.agg l'.toArray) h'
def Rs:lq:=λf vs h K _=>(f=77/\Jm vs h K)\/(f=86/\NZ vs h K)
theorem Jh:lQ Tryz.prog Rs:=lY BC (pX EJ)
theorem DJ(hC:EK vs h K):kN Tryz.prog 45 vs h K KP:=by
 obtain⟨u,f,ps,cs,a,l,v,V,rfl,ha,hF,hV,hal,hac,hK⟩:=hC
 obtain⟨va,vc,rfl,q1,q2⟩:=hV.sl
 rw[kE]at ha
 obtain⟨aw,rfl,haa⟩:=ha
 obtain⟨aa,ac,rfl,q3,q4⟩:=haa.sl
 have hm:=lC
 refine jJ 4195287 [((some (.c1 (.ldn 2) (.t 6))),(.o1 (.ldn 2) (.t 6)))] Jh Tryz.func45 ?_
 have s1:=jD.qZ S0 u h #[str a.1,.slice aa a.2.1.length ac,Jx JT a.2.2] 51
 have B1:=jR.newc (u:=u) (h:=h) [str a.1,.slice aa a.2.1.length ac,Jx JT a.2.2] 51
 have s2:=jD.qZ S0 (ub u h.size 0) (h.push (.cells #[str a.1,.slice aa a.2.1.length ac,Jx JT a.2.2] 51)) #[Jx JT 0,.slice none 0 0] 82
 have B2:=jR.newc (u:=ub u h.size 0) (h:=h.push (.cells #[str a.1,.slice aa a.2.1.length ac,Jx JT a.2.2] 51)) [Jx JT 0,.slice none 0 0] 82
 have B1:=B1.sZ s2
 have st2:=s1.tZ s2
 obtain⟨u2,hu2⟩:=kg (ub (ub u h.size 0) (h.push (.cells #[str a.1,.slice aa a.2.1.length ac,Jx JT a.2.2] 51)).size 0)
 obtain⟨h2,hh2⟩:=kg ((h.push (.cells #[str a.1,.slice aa a.2.1.length ac,Jx JT a.2.2] 51)).push (.cells #[Jx JT 0,.slice none 0 0] 82))
 have hz2:h2.size=h.size+2:=by rw[hh2];simp only[kw]
 have B2:jR u2 h2 (h.size+1) [Jx JT 0,.slice none 0 0]:=by rw[hu2,hh2];simpa only[kw]using B2
 have B1:jR u2 h2 h.size [str a.1,.slice aa a.2.1.length ac,Jx JT a.2.2]:=by rw[hu2,hh2];exact B1
 have st2:jD S0 u h u2 h2:=by rw[hu2,hh2];exact st2
 have b1l:=B1.1
 have b2l:=B2.1
 obtain⟨vps,b,hFb,hFp,hFB⟩:=(hF.sZ st2).ex
 have hfl:=hFb.1
 simp only[↓reduceIte,go_sem,<-hh2]
 obtain⟨M,hM⟩:=kg (α:=ku->H->Prop) λσ' h3=> ∃u3,akT u h f h.size (h.size+1) 7 [str a.1,.slice aa a.2.1.length ac,Jx JT a.2.2] (lW ps a.1) σ' u3 h3/\σ' 2= .slice va V.length vc
 refine vX M ?_ ?_
 ·have sp:=jD.qZ S0 u2 h2 #[Jx JT (lW ps a.1),.slice none 0 0] 82
  have P3:=jR.newc (u:=u2) (h:=h2) [Jx JT (lW ps a.1),.slice none 0 0] 82
  rw[hz2]at P3
  have fin: ∀σ':ku,σ' 0= .pointer (some ⟨f,0,none⟩)->σ' 2= .slice va V.length vc->σ' 4= .pointer (some ⟨h.size,0,none⟩)->σ' 6= .pointer (some ⟨h.size+1,0,none⟩)->σ' 7= .pointer (some ⟨h2.size,0,none⟩)->M σ' (h2.push (.cells #[Jx JT (lW ps a.1),.slice none 0 0] 82)):=λσ' g0 g2 g4 g6 g7=>by
   rw[hM]
   exact⟨_,⟨st2.tZ sp,g0,g4,g6,by rw[g7,hz2],zY,B1.sZ sp,B2.sZ sp,by rw[hz2];exact P3⟩,g2⟩
  simp(disch:=first|omega|simp only[zz];try omega;done) only[↓reduceIte,go_sem,vQ,B1.at,B1.2.1,hFb.at,hFb.2.1]
  refine⟨jC (.inl ⟨rfl,u2,vps,ps,a.1,rfl,hFp,zE,?_⟩),?_⟩
  ·simp(disch:=omega) only[↓reduceIte,go_sem,jN]
   exact fin _ zJ zJ zJ zJ zJ
  ·have sp0:=jD.qZ S0 u2 h2 #[Jx JT 0,.slice none 0 0] 82
   refine jC (.inl ⟨rfl,_,vps,ps,a.1,rfl,hFp.mono sp0.ge,zE,?_⟩)
   simp(disch:=omega) only[↓reduceIte,go_sem,jN]
   exact fin _ zJ zJ zJ zJ zJ
 intro σ3 h3 hM3
 rw[hM]at hM3
 obtain⟨u3,⟨st3,g0,g4,g6,g7,hz3,A3,R3,P3⟩,g2⟩:=hM3
 clear hM M
 simp only[go_sem]
 obtain⟨I,hI⟩:=kg (α:=Nat->ku->H->Prop) λi σ h'=>σ 0= .pointer (some ⟨f,0,none⟩)/\σ 2= .slice va V.length vc/\σ 4= .pointer (some ⟨h.size,0,none⟩)/\σ 6= .pointer (some ⟨h.size+1,0,none⟩)/\σ 7= .pointer (some ⟨h.size+2,0,none⟩)/\σ 8= Jx JT i/\i<=a.2.1.length/\
  ∃u' w,jD S0 u h u' h'/\h.size+3<=h'.size/\jR u' h' h.size [str a.1,.slice aa a.2.1.length ac,Jx JT a.2.2]/\jR u' h' (h.size+1) [Jx JT 0,.slice none 0 0]/\jR u' h' (h.size+2) [Jx JT (lW ps a.1),w]/\lm (h.size+3) u' h' w ((a.2.1.take i).map (qE cs V))
 refine jE I (λi=>a.2.1.length - i) 0 (by rw[hI];exact⟨by simp [jI,g0],by simp [jI,g2],by simp [jI,g4],by simp [jI,g6],by simp [jI,g7],zJ,aj _,u3,_,st3,zO,A3,R3,P3,.nil _ _ _⟩) ?_
 clear g0 g2 g4 g6 g7 st3 hz3 A3 R3 P3
 intro i σ h' hy
 rw[hI]at hy
 obtain⟨e0,e2,e4,e6,e7,e8,hi,u',w,st,hz,A,R,P,ho⟩:=hy
 have al:=A.1
 have rl:=R.1
 have pl:=P.1
 by_cases hlt:i<a.2.1.length
 ·obtain⟨x,hs⟩: ∃x,a.2.1[i]? =some x:=⟨a.2.1[i],by simp [hlt]⟩
  obtain⟨pb,po,rfl,hpb,hpu,hpz,hpr⟩:=(haa.mono st.ge).row i x hs
  simp only[ko,jM.enc,lG,mQ,ax,aC]at hpr hpu hpz
  obtain⟨p0,p1,p2,p3⟩:=hpr
  simp(disch:=first|omega|simp only[zz];try omega;done) only[↓reduceIte,go_sem,e0,e2,e4,e8,A.at,A.2.1,hlt,p0,p1,p2,p3]
  refine jC (.inr ⟨rfl,u',f,ps,cs,x,_,V,rfl,hF.sZ st,hV.mono st.ge,hac x (aF hs),λu4 h4 s4=>⟨jO,?_⟩⟩)
  have st4:=st.tZ s4
  have A4:=A.sZ s4
  have R4:=R.sZ s4
  have P4:=P.sZ s4
  have ho4:=ho.sZ s4
  have hz4:=s4.ge.sz
  obtain⟨S,hS⟩:=kg (qE cs V x)
  rw[<-hS]
  have hse:(uL.enc S).toArray= #[.bool S.1,Jx JT S.2]:=rfl
  rw[hse]
  have sp:=jD.qZ S0 u4 h4 #[.bool S.1,Jx JT S.2] 158
  have X5:=jR.newc (u:=u4) (h:=h4) [.bool S.1,Jx JT S.2] 158
  have st5:=st4.tZ sp
  have A5:=A4.sZ sp
  have R5:=R4.sZ sp
  have P5:=P4.sZ sp
  have ho5:=ho4.sZ sp
  have p4l:=P4.1
  have hrx:Rep.rep (ub u4 h4.size 0) (h4.push (.cells #[.bool S.1,Jx JT S.2] 158)) S [.bool S.1,Jx JT S.2]:=by rw[wC]
  have hln:((a.2.1.take i).map (qE cs V)).length<=i:=by rw[aU,aR];exact eO _ _
  obtain⟨wa,wc,rfl,-,-⟩:=ho.sl
  simp(disch:=first|omega|simp only[zz];try omega;done) only[↓reduceIte,go_sem,e7,P4.at,P4.2.1]
  refine kW (e':=158) (cs:=[.bool S.1,Jx JT S.2]) (by simp only[kw]) ho5 hrx rfl rfl zY zO λa6 n6 c6 u6 h6 o6 s6 w6=>⟨jO,?_⟩
  have st6:=st5.own s6 λj hj=>by have:=ho5.ge hj;omega
  have A6:=A5.step s6 λhj=>by have:=ho5.ge hj;omega
  have R6:=R5.step s6 λhj=>by have:=ho5.ge hj;omega
  have P6:=P5.step s6 λhj=>by have:=ho5.ge hj;omega
  have hz6:=s6.ge.sz
  simp only[kw]at hz6
  obtain⟨xa6,xc6,hx6,-,-⟩:=o6.sl
  cases hx6
  obtain⟨W,hW⟩:=kg ((a.2.1.take i).map (qE cs V)++[S])
  have hWl:((a.2.1.take i).map (qE cs V)).length+1=W.length:=by rw[hW,ay];rfl
  rw[<-hW]at o6 ⊢
  have sw:=P6.stepSet (i:=1) (v:= .slice a6 W.length c6)
  have P7:jR u6 (ky h6 (h.size+2) 1 (.slice a6 W.length c6)) (h.size+2) [Jx JT (lW ps a.1),.slice a6 W.length c6]:=P6.set (i:=1) (v:= .slice a6 W.length c6) zP
  have A7:=A6.step sw λe=>by have e:h.size=h.size+2:=e;omega
  have R7:=R6.step sw λe=>by have e:h.size+1=h.size+2:=e;omega
  have o7:=o6.step sw λb hb e=>by have e:b=h.size+2:=e;have:=o6.ge hb;omega
  have st7:=st6.own sw λj e=>by have e:j=h.size+2:=e;omega
  have hz7:=sw.ge.sz
  have p6l:=P6.1
  simp(disch:=omega) only[↓reduceIte,go_sem,e7,e8,P6.2.1,P6.2.2.1]
  refine⟨i+1,?_,zO⟩
  rw[hI]
  refine⟨by simp [jI,e0],by simp [jI,e2],by simp [jI,e4],by simp [jI,e6],by simp [jI,e7],zJ,hlt,u6,.slice a6 W.length c6,st7,zO,A7,R7,P7,?_⟩
  rw[nU hs,<-hS,<-hW];exact o7
 ·obtain rfl:i=a.2.1.length:=zO
  rw[aK]at ho
  obtain⟨wa,wc,rfl,-,-⟩:=ho.sl
  have b9:=R.sets (l:=[Jx JT (lW ps a.1),.slice wa (a.2.1.map (qE cs V)).length wc]) rfl
  have sw:=R.stepSets (l:=[Jx JT (lW ps a.1),.slice wa (a.2.1.map (qE cs V)).length wc]) rfl
  have hK':=hK _ _ [Jx JT (lW ps a.1),.slice wa (a.2.1.map (qE cs V)).length wc] (st.own sw λj e=>by have e:j=h.size+1:=e;omega) (by rw[nA];exact⟨_,rfl,ho.iZ.mono sw.ge⟩)
  simp(disch:=first|omega|simp only[zz];try omega;done) only[↓reduceIte,go_sem,e4,e6,e7,e8,A.at,A.2.1,P.at,P.2.1,R.2.1,R.2.2.1,b9.at,b9.2.1]
  exact hK'
end Go.Proofs.Z
