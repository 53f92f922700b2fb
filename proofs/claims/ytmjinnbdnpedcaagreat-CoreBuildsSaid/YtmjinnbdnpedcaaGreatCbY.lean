/- The reference's Build: rules. -/
import Derived.Test.YtmjinnbdnpedcaaGreatCbX
namespace Go.Proofs.YtmjinnbdnpedcaaGreat
open Go Go.Ev Edict
theorem CX.setR{k b f:Nat}{ps:List Pred}{cs:List Const}{vP vC vR vF v:Value}{rs rs':List Rule}{rows:List Row}{σ σ':Env}{u u':U}{h h':H}(X:CX k b f ps cs vP vC vR vF rs rows σ u h)(s:Step (OwnB vR) u h u' h')(o:Own k u' h' v rs')(hw: ∀j,OwnB v j→OwnB vR j∨h.size≤j)(h1:σ' 15=σ 15)(h2:σ' 17=σ 17):
  CX k b f ps cs vP vC v vF rs' rows σ' u' (hset h' b 2 v)∧Step (fun j=>k≤j∨j=b) u h u' (hset h' b 2 v):=by
 have hk: ∀j,OwnB vR j→k≤j:=fun j hj=>X.oR.ge hj
 have C1:=X.C.step s fun hj=>by have:=hk _ hj;have:=X.hb;omega
 have sw:=C1.stepSet (i:=2) (v:=v)
 have C2:Blk u' (hset h' b 2 v) b [vP,vC,v,vF]:=C1.set (i:=2) (v:=v) (by simp)
 have hkb: ∀j,j=b→ ¬k≤j:=fun j e=>by have:=X.hb;omega
 refine⟨⟨by rw[h1,X.eb],by rw[h2,X.ef],X.hb,C2,?_,(X.iP.mono s.ge).mono sw.ge,(X.iC.mono s.ge).mono sw.ge,o.step sw fun b hb e=>hkb b e (o.ge hb),(X.oF.step s fun b hb hb2=>X.dis b hb2 hb).step sw fun b hb e=>hkb b e (X.oF.ge hb),fun j hj hj2=> ?_,Nat.le_trans X.kz (Nat.le_trans s.ge.sz sw.ge.sz)⟩,?_⟩
 ·obtain⟨vps,bb,l1,l2,g1,g2,g3⟩:=(X.N.step s hk).ex
  by_cases hfb:f=b
  ·exfalso
   have e1:=g1.at 1 (by simp)
   have e2:=C1.at 1 (by simp)
   have e0:=g1.2.1
   have e0':=C1.2.1
   rw[hfb,e0']at e0
   simp at e0
  ·by_cases hbb:bb=b
   ·exfalso
    obtain⟨va,vi,L,I,h1,-⟩:=g3.ex
    have e0:=h1.2.1
    rw[hbb,C1.2.1]at e0
    simp at e0
   ·exact⟨vps,bb,l1,l2,g1.step sw hfb,g2.mono sw.ge,g3.step sw hbb⟩
 ·rcases hw j hj with h|h
  ·exact X.dis j h hj2
  ·have:=X.oF.lt hj2;omega
 ·refine(s.mono (S':=fun j=>k≤j∨j=b) fun j _ hj=> .inl (hk j hj)).trans sw fun j _ e=> .inr e

structure ClOk (cs:List Const) (c:Clause):Prop where
 few:c.2.length≤16
 few2:c.1.2.1.length≤8
 lit: ∀x∈c.2,Kind3 x∧x.2.1.2.1.length≤8
 con: ∀t∈termsC c,t.1≠4→cnst t∈cs
 gr:c.2=[]→ ∀t∈c.1.2.1,cnst t∈cs
theorem rT13_ok {K:Value→H→Prop} {KP:List PanicEntry→H→Prop} {u0:U} {h0:H} {p:List Clause} {fs:List Atom} {la fa:Option Addr} {lc fc:Nat} {σ:Env} {u:U} {h:H} {k b f:Nat} {ps:List Pred} {cs:List Const} {vP vC vR vF:Value}
  (X:BX u0 h0 p.length fs.length la fa lc fc σ u h) (Y:CX k b f ps cs vP vC vR vF [] [] σ u h) (hbk:h0.size+3≤b) (hl:IsSl u0 h0 (.slice la p.length lc) p) (hp5:p.length≤512) (hcl: ∀c∈p,ClOk cs c) (hf:IsSl u0 h0 (.slice fa fs.length fc) fs) (hf4:fs.length≤4096) (hfa: ∀a∈fs,a.2.1.length≤8∧ ∀t∈a.2.1,cnst t∈cs)
  (hb:refF p fs=(refC p fs ps cs,0,0,0)) (hK:Kb u0 h0 p fs K):wpS G_rfBuild rT13 (retQ rfBuild_E (callK K KP)) σ h:=by
 have hm:=mlen'
 have x1:=X.e1
 have x2:=X.e2
 have x4:=X.e4
 have x5:=X.e5
 have y15:=Y.eb
 have y17:=Y.ef
 rw[rT13_cut]
 simp(disch:=first|omega|(simp only[zz];try omega;done)) only[go_sem,rT13,rT12,rT11,rT10,rT9,rT8,rT7,rT6,rT5,rT4,rT3,rT2,rT1,rfBuild_S,sS,sF]
 obtain⟨I,hI⟩: ∃I:Nat→Env→H→Prop,I=fun i σ h'=>σ 18= .int .i64 i∧i≤p.length∧ ∃u' vR vF,BX u0 h0 p.length fs.length la fa lc fc σ u' h'∧CX k b f ps cs vP vC vR vF (rulesRR ps cs ([],[]) 0 (p.take i)).1 (rulesRR ps cs ([],[]) 0 (p.take i)).2 σ u' h':=⟨_,rfl⟩
 refine wpS_loop I (fun i=>p.length - i) 0 (by
  rw[hI]
  exact⟨by simp [upd],Nat.zero_le _,u,vR,vF,X.go (Step.refl S0 u h) (fun _ e=>e.elim) (by simp [upd]) (by simp [upd]) (by simp [upd]) (by simp [upd]),Y.go0 (Step.refl S0 u h) (by simp [upd]) (by simp [upd])⟩) ?_
 clear X Y x1 x2 x4 x5 y15 y17
 intro i σ h' hy
 rw[hI]at hy
 obtain⟨e18,hi,u',vR,vF,X,Y⟩:=hy
 have x1:=X.e1
 have x2:=X.e2
 have x4:=X.e4
 have x5:=X.e5
 have y15:=Y.eb
 have y17:=Y.ef
 have A:=X.A
 have al:=A.1
 have hlenR:=rulesRR_len (ps:=ps) (cs:=cs) (p.take i) ([],[]) 0
 simp only[List.length_nil,List.length_take]at hlenR
 by_cases hlt:i<p.length
 ·obtain⟨x,hs⟩: ∃x,p[i]? =some x:=⟨p[i],by simp [hlt]⟩
  have hc:=hcl x (List.mem_of_getElem? hs)
  obtain⟨pb,po,rfl,hpb,hpu,hpz,hpr⟩:=(hl.mono X.st.ge).row i x hs
  rw[rep_clause]at hpr
  obtain⟨va,vb,hpr,hh,hbd⟩:=hpr
  obtain⟨ha,hca,rfl,-,-⟩:=hh.sl
  obtain⟨ba,bca,rfl,-,-⟩:=hbd.sl
  simp only[sz_clause,hvs_4,List.cons.injEq,and_true]at hpr hpu hpz
  obtain⟨p0,p1,p2,p3⟩:=hpr
  have htk:p.take (i+1)=p.take i++[x]:=by rw[List.take_add_one,hs];rfl
  have hsn:rulesRR ps cs ([],[]) 0 (p.take (i+1))=stepRR ps cs (rulesRR ps cs ([],[]) 0 (p.take i)) i x:=by
   rw[htk,rulesRR_snoc,List.length_take,Nat.min_eq_left (by omega),Nat.zero_add]
  obtain⟨ST,hST⟩: ∃ST,ST=rulesRR ps cs ([],[]) 0 (p.take i):=⟨_,rfl⟩
  rw[←hST]at Y hlenR hsn
  have sX:=Step.push0 S0 u' h' #[str x.1.1,.slice ha x.1.2.1.length hca,.int .i64 x.1.2.2,.slice ba x.2.length bca] 51
  have T1:=Blk.new (u:=u') (h:=h') [str x.1.1,.slice ha x.1.2.1.length hca,.int .i64 x.1.2.2,.slice ba x.2.length bca] 51
  have X1:=X.go (σ':=σ) sX (fun _ e=>e.elim) rfl rfl rfl rfl
  have Y1:=Y.go0 (σ':=σ) sX rfl rfl
  obtain⟨u1,hu1⟩: ∃u1,u1=ub u' h'.size 0:=⟨_,rfl⟩
  obtain⟨h1,hh1⟩: ∃h1,h1=h'.push (.cells #[str x.1.1,.slice ha x.1.2.1.length hca,.int .i64 x.1.2.2,.slice ba x.2.length bca] 51):=⟨_,rfl⟩
  have hz1:h1.size=h'.size+1:=by rw[hh1];simp only[e_psz]
  rw[←hu1,←hh1]at sX X1 Y1
  have T1:Blk u1 h1 h'.size [str x.1.1,.slice ha x.1.2.1.length hca,.int .i64 x.1.2.2,.slice ba x.2.length bca]:=by rw[hu1,hh1];exact T1
  have t1l:=T1.1
  have hra:Rep.rep u1 h1 x.1 [str x.1.1,.slice ha x.1.2.1.length hca,.int .i64 x.1.2.2]:=by rw[rep_atom];exact⟨_,rfl,hh.mono sX.ge⟩
  by_cases he:x.2=[]
  ·have hz0:x.2.length=0:=by rw[he];rfl
   have hz0':(x.2.length:Int)=0:=by omega
   have hst:stepRR ps cs ST i x=(ST.1,joinR ST.2 (rowR ps cs x.1)):=by unfold stepRR;rw[if_pos he]
   rw[hst]at hsn
   simp(disch:=first|omega|(simp only[zz];try omega;done)) only[↓reduceIte,go_sem,rfBuild_L3,x2,e18,y17,A.at,A.2.1,hlt,p0,p1,p2,p3,←hh1,T1.at,T1.2.1,eq_true hz0']
   refine effS_call (.inl ⟨rfl,u1,f,ps,cs,x.1,[str x.1.1,.slice ha x.1.2.1.length hca,.int .i64 x.1.2.2],rfl,hra,Y1.N.b,by have:=hc.few2;omega,hc.gr he,fun u4 h4 l4 s4 hr4=>⟨zz0,?_⟩⟩)
   obtain⟨Q4,hQ4⟩: ∃Q4,Q4=rowR ps cs x.1:=⟨_,rfl⟩
   rw[←hQ4]at hr4 hsn
   have hrp:=hr4
   rw[rep_row]at hr4
   obtain⟨zv,rfl,hz4⟩:=hr4
   obtain⟨za,zc,rfl,-,-⟩:=hz4.sl
   have sY:=Step.push0 S0 u4 h4 #[.int .i64 Q4.1,.slice za Q4.2.length zc] 69
   have s5:=s4.trans0 sY
   have Y4:=Y1.go0 (σ':=σ) s4 rfl rfl
   have Y5:=Y1.go0 (σ':=σ) s5 rfl rfl
   have X5:=X1.go (σ':=σ) s5 (fun _ e=>e.elim) rfl rfl rfl rfl
   have c4:=Y4.C
   have c4l:=c4.1
   simp(disch:=first|omega|(simp only[zz];try omega;done)) only[↓reduceIte,go_sem,y15,c4.at,c4.2.1]
   refine effS_call (.inr (.inl ⟨rfl,_,k,vF,_,Q4,[.int .i64 Q4.1,.slice za Q4.2.length zc],rfl,Y5.oF,Y5.kz,Rep.mono sY.ge hrp,by omega,fun u6 h6 v6 s6 o6 w6=>⟨zz0,?_⟩⟩))
   obtain⟨va6,vc6,rfl,-,-⟩:=o6.sl
   have c5:=Y5.C.step s6 fun hj=>by have:=Y5.oF.ge hj;have:=Y5.hb;omega
   have c5l:=c5.1
   simp(disch:=first|omega|(simp only[zz];try omega;done)) only[↓reduceIte,go_sem,y15,e18,c5.2.1,c5.2.2.1]
   obtain⟨Y6,s7⟩:=Y5.setF (σ':=σ) s6 o6 w6 rfl rfl
   refine⟨i+1,?_,by omega⟩
   rw[hI]
   refine⟨by simp [upd],hlt,u6,vR,.slice va6 (joinR ST.2 Q4).length vc6,X5.go s7 (fun j hj=>by rcases hj with hj|hj;have:=Y5.hb;omega;omega) (by simp [upd]) (by simp [upd]) (by simp [upd]) (by simp [upd]),?_⟩
   rw[hsn]
   exact⟨by simp [upd,y15],by simp [upd,y17],Y6.hb,Y6.C,Y6.N,Y6.iP,Y6.iC,Y6.oR,Y6.oF,Y6.dis,Y6.kz⟩
  ·have hz0:x.2.length≠0:=fun e=>he (List.length_eq_zero_iff.1 e)
   have hz0': ¬(x.2.length:Int)=0:=by omega
   have hst:stepRR ps cs ST i x=(ST.1++[ruleR ps cs i x],ST.2):=by unfold stepRR;rw[if_neg he]
   rw[hst]at hsn
   simp(disch:=first|omega|(simp only[zz];try omega;done)) only[↓reduceIte,go_sem,rfBuild_L3,x2,e18,y17,A.at,A.2.1,hlt,p0,p1,p2,p3,←hh1,T1.at,T1.2.1,eq_false hz0']
   refine effS_call (.inr (.inr (.inl ⟨rfl,u1,f,ps,cs,_,x.2,rfl,Y1.N.b,hbd.mono sX.ge,hc.few,fun y hy=>⟨(hc.lit y hy).1,(hc.lit y hy).2,fun t ht=>hc.con t (by unfold termsC;exact List.mem_append.2 (.inr (List.mem_flatMap.2 ⟨y,hy,ht⟩)))⟩,fun u4 h4 l4 s4 hr4=>⟨zz0,?_⟩⟩)))
   obtain⟨P4,T4,N4,hP4,hT4,hN4⟩: ∃P4 T4 N4,P4=posR ps cs [] x.2∧T4=testsR cs (varsF x.2) x.2∧N4=negsR ps cs (varsF x.2) x.2:=⟨_,_,_,rfl,rfl,rfl⟩
   have hbd4:bodyR ps cs x.2=(((0,[]):Pattern),P4,T4,N4,varsF x.2,0):=by rw[hP4,hT4,hN4];rfl
   rw[hbd4,rep_rule]at hr4
   obtain⟨a0,a1,a2,a3,a4,rfl,i0,i1,i2,i3,i4⟩:=hr4
   simp only at i0 i1 i2 i3 i4
   obtain⟨V,hV⟩: ∃V,V=varsF x.2:=⟨_,rfl⟩
   rw[←hV]at i4
   obtain⟨a4a,a4c,rfl,-,-⟩:=i4.sl
   obtain⟨b0,b0c,hb0,-,-⟩:=i0.sl
   rw[List.length_nil]at hb0
   subst hb0
   obtain⟨b1,b1c,rfl,-,-⟩:=i1.sl
   obtain⟨b2,b2c,rfl,-,-⟩:=i2.sl
   obtain⟨b3,b3c,rfl,-,-⟩:=i3.sl
   have sY:=Step.push0 S0 u4 h4 #[.int .i64 0,.slice b0 0 b0c,.slice b1 P4.length b1c,.slice b2 T4.length b2c,.slice b3 N4.length b3c,.slice a4a V.length a4c,.int .i64 0] 79
   have Z1:=Blk.new (u:=u4) (h:=h4) [.int .i64 0,.slice b0 0 b0c,.slice b1 P4.length b1c,.slice b2 T4.length b2c,.slice b3 N4.length b3c,.slice a4a V.length a4c,.int .i64 0] 79
   have s5:=s4.trans0 sY
   obtain⟨u5,hu5⟩: ∃u5,u5=ub u4 h4.size 0:=⟨_,rfl⟩
   obtain⟨h5,hh5⟩: ∃h5,h5=h4.push (.cells #[.int .i64 0,.slice b0 0 b0c,.slice b1 P4.length b1c,.slice b2 T4.length b2c,.slice b3 N4.length b3c,.slice a4a V.length a4c,.int .i64 0] 79):=⟨_,rfl⟩
   have hz5:h5.size=h4.size+1:=by rw[hh5];simp only[e_psz]
   rw[←hu5,←hh5]at sY s5
   have Z1:Blk u5 h5 h4.size [.int .i64 0,.slice b0 0 b0c,.slice b1 P4.length b1c,.slice b2 T4.length b2c,.slice b3 N4.length b3c,.slice a4a V.length a4c,.int .i64 0]:=by rw[hu5,hh5];exact Z1
   have Y5:=Y1.go0 (σ':=σ) s5 rfl rfl
   have X5:=X1.go (σ':=σ) s5 (fun _ e=>e.elim) rfl rfl rfl rfl
   have T5:=T1.step0 s5
   have t5l:=T5.1
   have z1l:=Z1.1
   have hz4:=s4.ge.sz
   simp(disch:=first|omega|(simp only[zz];try omega;done)) only[↓reduceIte,go_sem,←hh5,y17,Z1.at,Z1.2.1,T5.at,T5.2.1]
   refine effS_call (.inr (.inr (.inr (.inl ⟨rfl,u5,f,ps,cs,x.1,[str x.1.1,.slice ha x.1.2.1.length hca,.int .i64 x.1.2.2],_,V,rfl,Rep.mono s5.ge hra,Y5.N.b,i4.mono sY.ge,by have:=hc.few2;omega,fun t ht=>hc.con t (by unfold termsC;exact List.mem_append.2 (.inl ht)),fun u6 h6 l6 s6 hr6=>⟨zz0,?_⟩⟩))))
   obtain⟨Q6,hQ6⟩: ∃Q6,Q6=patR ps cs V x.1:=⟨_,rfl⟩
   rw[←hQ6,rep_pattern]at hr6
   obtain⟨qv,rfl,iq⟩:=hr6
   obtain⟨qa,qc,rfl,-,-⟩:=iq.sl
   have Z6:=Z1.step0 s6
   have Y6:=Y5.go0 (σ':=σ) s6 rfl rfl
   have X6:=X5.go (σ':=σ) s6 (fun _ e=>e.elim) rfl rfl rfl rfl
   have z6l:=Z6.1
   have W1:=Z6.stepSet (i:=0) (v:= .int .i64 Q6.1)
   have Z7:=Z6.set (i:=0) (v:= .int .i64 Q6.1) (by simp)
   have W2:=Z7.stepSet (i:=1) (v:= .slice qa Q6.2.length qc)
   have Z8:=Z7.set (i:=1) (v:= .slice qa Q6.2.length qc) (by simp)
   have W3:=Z8.stepSet (i:=6) (v:= .int .i64 i)
   have Z9:=Z8.set (i:=6) (v:= .int .i64 i) (by simp)
   obtain⟨h9,hh9⟩: ∃h9,h9=hset (hset (hset h6 h4.size 0 (.int .i64 Q6.1)) h4.size 1 (.slice qa Q6.2.length qc)) h4.size 6 (.int .i64 i):=⟨_,rfl⟩
   have W12:=(W1.trans W2 fun j _ e=>e).trans W3 fun j _ e=>e
   rw[←hh9]at W12 Z9
   have Z9:Blk u6 h9 h4.size [.int .i64 Q6.1,.slice qa Q6.2.length qc,.slice b1 P4.length b1c,.slice b2 T4.length b2c,.slice b3 N4.length b3c,.slice a4a V.length a4c,.int .i64 i]:=Z9
   have Y9:CX k b f ps cs vP vC vR vF ST.1 ST.2 σ u6 h9:=by
    have hS: ∀j,j=h4.size→k≤j:=fun j e=>by have:=Y1.kz;omega
    have nb: ∀j,j<k→ ¬j=h4.size:=fun j h1 e=>by have:=hS j e;omega
    exact⟨y15,y17,Y6.hb,Y6.C.step W12 (nb _ Y6.hb),Y6.N.step W12 hS,Y6.iP.mono W12.ge,Y6.iC.mono W12.ge,Y6.oR.step W12 fun j hj e=>(by have e:j=h4.size:=e;have:=Y1.oR.lt hj;omega),Y6.oF.step W12 fun j hj e=>(by have e:j=h4.size:=e;have:=Y1.oF.lt hj;omega),Y6.dis,Nat.le_trans Y6.kz W12.ge.sz⟩
   have X9:=X6.go (σ':=σ) W12 (fun j e=>by have e:j=h4.size:=e;have:=X1.z;omega) rfl rfl rfl rfl
   have c9:=Y9.C
   have c9l:=c9.1
   have z9l:=Z9.1
   obtain⟨na,nc,hvRe,-,-⟩:=Y9.oR.sl
   have g6:=s6.ge.trans W12.ge
   have hRu:ruleR ps cs i x=((Q6.1,Q6.2),P4,T4,N4,V,(i:Int)):=by rw[hQ6,hP4,hT4,hN4,hV];rfl
   have hr9:Rep.rep u6 h9 (ruleR ps cs i x) [.int .i64 Q6.1,.slice qa Q6.2.length qc,.slice b1 P4.length b1c,.slice b2 T4.length b2c,.slice b3 N4.length b3c,.slice a4a V.length a4c,.int .i64 i]:=by
    rw[hRu,rep_rule]
    have gg:=sY.ge.trans g6
    exact⟨_,_,_,_,_,rfl,iq.mono W12.ge,i1.mono gg,i2.mono gg,i3.mono gg,i4.mono gg⟩
   have zc:=X9.z
   simp(disch:=first|omega|(simp only[zz];try omega;done)) only[↓reduceIte,go_sem,e18,y15,Z6.2.1,Z6.2.2.1]
   have hre:hset (hsets h6 h4.size 0 [.int .i64 Q6.1,.slice qa Q6.2.length qc]) h4.size 6 (.int .i64 i)=h9:=hh9.symm
   simp only[hre]
   have c6:=Y6.C
   have c6l:=c6.1
   have hz96:h6.size=h9.size:=by rw[hh9];simp only[e_ssz]
   have hbz:=Y6.hb
   subst hvRe
   simp(disch:=first|omega|(simp only[zz];try omega;done)) only[go_sem,Z6.2.1,Z6.2.2.1,c9.at,Z9.at,hsets_hsz,hsets_hfr,hsets_size,c6.2.1]
   refine effS_app1o (e':=79) (cs:=[.int .i64 Q6.1,.slice qa Q6.2.length qc,.slice b1 P4.length b1c,.slice b2 T4.length b2c,.slice b3 N4.length b3c,.slice a4a V.length a4c,.int .i64 i]) hz96 Y9.oR hr9 rfl rfl Y9.kz (by omega) fun a10 n10 c10 u10 h10 o10 s10 w10=>⟨zz0,?_⟩
   obtain⟨xa10,xc10,hx10,-,-⟩:=o10.sl
   cases hx10
   have d10:=Y9.C.step s10 fun hj=>by have:=Y9.oR.ge hj;omega
   have d10l:=d10.1
   obtain⟨Y11,s11⟩:=Y9.setR (σ':=σ) s10 o10 w10 rfl rfl
   have hle:(ST.1++[ruleR ps cs i x]).length=ST.1.length+1:=by rw[List.length_append];rfl
   rw[hle]at Y11 s11
   simp(disch:=first|omega|(simp only[zz];try omega;done)) only[↓reduceIte,go_sem,e18,y15,d10.2.1,d10.2.2.1]
   refine⟨i+1,?_,by omega⟩
   rw[hI]
   refine⟨by simp [upd],hlt,u10,.slice a10 (ST.1.length+1) c10,vF,X9.go s11 (fun j hj=>by rcases hj with hj|hj;omega;omega) (by simp [upd]) (by simp [upd]) (by simp [upd]) (by simp [upd]),?_⟩
   rw[hsn]
   exact⟨by simp [upd,y15],by simp [upd,y17],Y11.hb,Y11.C,Y11.N,Y11.iP,Y11.iC,Y11.oR,Y11.oF,Y11.dis,Y11.kz⟩
 ·obtain rfl:i=p.length:=by omega
  rw[List.take_length]at Y hlenR
  simp(disch:=first|omega|(simp only[zz];try omega;done)) only[↓reduceIte,go_sem,rfBuild_L3,x2,e18,A.at,A.2.1]
  refine rT14_ok (X.go (Step.refl S0 u' h') (fun _ e=>e.elim) (by simp [upd]) (by simp [upd]) (by simp [upd]) (by simp [upd])) (Y.go0 (Step.refl S0 u' h') (by simp [upd]) (by simp [upd])) hbk hf hf4 hfa (by omega) ?_ hK
  rw[hb];rfl
end Go.Proofs.YtmjinnbdnpedcaaGreat
