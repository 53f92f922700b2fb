/- core: Build: the rules. -/
import Derived.Test.YtmjinnbdnpedcaaGreatKcL
namespace Edict
theorem rulesF_cons(ps:List Pred)(cs:List Const)(st:List Rule×List Row)(n:Nat)(c:Clause)(l:List Clause):rulesF ps cs st n (c::l)=rulesF ps cs (stepR ps cs st n c) (n+1) l:=rfl
theorem tot_lits(ls:List Literal):(varsF ls).length≤Go.Ev.bulkL ls:=by
 have h1:=varsL_len ls []
 have h2:=tot_bulk ls
 unfold varsF
 simp only[List.length_nil]at h1
 omega
end Edict
namespace Go.Proofs.YtmjinnbdnpedcaaGreat
open Go Go.Ev Edict
theorem BSt.putR {k:Nat} {u u2:U} {h h2:H} {b mp mc:Nat} {vP vC vR vF vR':Value} {ps:List Pred} {cs:List Const} {rs rs':List Rule} {fs:List Row} (B:BSt k u h b mp mc vP vC vR vF ps cs rs fs)
  (o2:Own k u2 h2 vR' rs') (s2:Step (OwnB vR) u h u2 h2) (hb: ∀i,OwnB vR' i→OwnB vR i∨h.size≤i):
  BSt k u2 (hset h2 b 2 vR') b mp mc vP vC vR' vF ps cs rs' fs∧Step (BStB b mp mc vP vC vR vF) u h u2 (hset h2 b 2 vR'):=by
 have D:=B.dis
 simp only[Disj,List.pairwise_cons,List.mem_cons,List.not_mem_nil,or_false,forall_eq_or_imp,forall_eq,List.Pairwise.nil,and_true,false_imp_iff,implies_true]at D
 obtain⟨⟨d1,d2,d3,d4,d5,d6⟩,⟨d7,d8,d9,d10,d11⟩,⟨d12,d13,d14,d15⟩,⟨d16,d17,d18⟩,⟨d19,d20⟩,d21⟩:=D
 have X2:=B.blk.step s2 d5
 have P2:=B.oP.step s2 (fun i hi e=>d17 i hi e)
 have C2:=B.oC.step s2 (fun i hi e=>d19 i hi e)
 have F2:=B.oF.step s2 (fun i hi e=>d21 i e hi)
 have mP2:=B.mP.step s2 d10
 have mC2:=B.mC.step s2 d14
 have hnew: ∀j,j<h.size→ ¬OwnB vR j→ ¬OwnB vR' j:=fun j hj hn hv=>(hb j hv).elim hn (fun h=>by omega)
 have sw:Step (fun i=>i=b) u2 h2 u2 (hset h2 b 2 vR'):=Step.set u2 h2 vR' rfl (by rw[X2.2.2.2.1];exact Nat.zero_le _)
 have sall:Step (BStB b mp mc vP vC vR vF) u h u2 (hset h2 b 2 vR'):=(s2.mono (S':=BStB b mp mc vP vC vR vF) (fun i _ hi=> .inr (.inr (.inr (.inr (.inr (.inl hi))))))).trans sw (fun i _ e=> .inl e)
 have hR'b: ¬OwnB vR' b:=hnew b B.blk.1 d5
 have hpl: ∀j,OwnB vP j→ ¬OwnB vR' j:=fun j hj=>hnew j (B.oP.lt hj) (fun hv=>d17 j hj hv)
 have hcl: ∀j,OwnB vC j→ ¬OwnB vR' j:=fun j hj=>hnew j (B.oC.lt hj) (fun hv=>d19 j hj hv)
 have hfl: ∀j,OwnB vF j→ ¬OwnB vR' j:=fun j hj=>hnew j (B.oF.lt hj) (fun hv=>d21 j hv hj)
 refine⟨⟨X2.set (i:=2) (v:=vR') (by simp),own_hset P2 d3 X2.2.2.2.1,own_hset C2 d4 X2.2.2.2.1,own_hset o2 hR'b X2.2.2.2.1,own_hset F2 d6 X2.2.2.2.1,mP2.step sw (fun e=>d1 (by have e:mp=b:=e;rw[e])),mC2.step sw (fun e=>d2 (by have e:mc=b:=e;rw[e])),?_,B.kb,B.kp,B.kc⟩,sall⟩
 simp only[Disj,List.pairwise_cons,List.mem_cons,List.not_mem_nil,or_false,forall_eq_or_imp,forall_eq,List.Pairwise.nil,and_true,false_imp_iff,implies_true]
 exact⟨⟨d1,d2,d3,d4,hR'b,d6⟩,⟨d7,d8,d9,hnew mp B.mP.lt d10,d11⟩,⟨d12,d13,hnew mc B.mC.lt d14,d15⟩,⟨d16,hpl,d18⟩,⟨hcl,d20⟩,fun j hv hj=>hfl j hj hv⟩
theorem bT9_ok {K:Value→H→Prop} {KP:List PanicEntry→H→Prop} {u0:U} {h0:H} {p:List Clause} {fs:List Atom} {la fa:Option Addr} {lc fc p2 p4 p5 b k:Nat} {σ:Env} {u:U} {h:H} {mp mc ms:Nat} {vP vC vR vF:Value} {ps:List Pred} {cs:List Const}
  (X:BCx u0 h0 p fs la fa lc fc p2 p4 p5 b k σ u h) (e17:σ 17= .map (some ms)) (hl:IsSl u0 h0 (.slice la p.length lc) p) (hlf:IsSl u0 h0 (.slice fa fs.length fc) fs) (B:BSt k u h b mp mc vP vC vR vF ps cs [] []) (M:MapG ksK encK h ms (posL (([]:List Row).map key9)) 0) (hms: ¬BStB b mp mc vP vC vR vF ms) (hkm:k≤ms)
  (hps:ps.length≤131072) (hcs:cs.length≤65536) (hpl:p.length≤512) (hpc: ∀c∈p,clauseW c=0) (hpw: ∀c∈p,∀t∈termsC c,Rep.wf (cnst t)) (h8: ∀a∈fs,a.2.1.length≤8∧ ∀t∈a.2.1,Rep.wf (cnst t)) (hfl:fs.length≤4096)
  (hb:buildF p fs=((ps,cs,(rulesF ps cs ([],[]) 0 p).1,fs.foldl (fun l a=>factT l (rowF ps cs a)) (rulesF ps cs ([],[]) 0 p).2),0,0,0)) (hK:Kb u0 h0 p fs K):wpS G_crBuild bT9 (retQ crBuild_E (callK K KP)) σ h:=by
 rw[bT9_cut]
 have hA:=X.A
 have hA1:=hA.1
 simp(disch:=first|omega|(simp only[zz];try omega;done)) only[↓reduceIte,go_sem,bT9,bT8,bT7,bT6,bT5,bT4,bT3,bT2,sS,sF,crBuild_S,X.e2,hA.at,hA.2.1]
 obtain⟨I,hI⟩: ∃I:Nat→Env→H→Prop,I=fun i σ' h'=>σ' 17= .map (some ms)∧σ' 94= .slice la p.length lc∧σ' 95= .int .i64 p.length∧σ' 96= .int .i64 i∧i≤p.length∧
  ∃(u':U) (vR' vF':Value) (ri:List Rule) (wi:List Row),BCx u0 h0 p fs la fa lc fc p2 p4 p5 b k σ' u' h'∧BSt k u' h' b mp mc vP vC vR' vF' ps cs ri wi∧MapG ksK encK h' ms (posL (wi.map key9)) wi.length∧ ¬BStB b mp mc vP vC vR' vF' ms∧ri.length≤i∧wi.length≤i∧
   rulesF ps cs ([],[]) 0 p=rulesF ps cs (ri,wi) i (p.drop i):=⟨_,rfl⟩
 refine wpS_loop I (fun i=>p.length - i) 0 (by
  rw[hI]
  exact⟨by simp [upd,e17],by simp [upd],by simp [upd],by simp [upd],Nat.zero_le _,u,vR,vF,[],[],X.step (S:=S0) (.refl _ _ _) (fun _ h=>h.elim) _ (by simp [upd]) (by simp [upd]) (by simp [upd]) (by simp [upd]) (by simp [upd]),B,M,hms,Nat.le_refl _,Nat.le_refl _,rfl⟩) ?_
 clear B M hms X e17 hA hA1
 intro i σ h' hy
 rw[hI]at hy
 obtain⟨e17,e94,e95,e96,hi,u',vR',vF',ri,wi,X,B,M,hms,hrl,hwl,heq⟩:=hy
 by_cases hlt:i<p.length
 ·obtain⟨c,hs⟩: ∃c,p[i]? =some c:=⟨p[i],by simp [hlt]⟩
  have hdr:p.drop i=c::p.drop (i+1):=by
   obtain⟨hi',rfl⟩:=List.getElem?_eq_some_iff.1 hs
   exact List.drop_eq_getElem_cons hi'
  rw[hdr,rulesF_cons]at heq
  have hmem:=List.mem_of_getElem? hs
  have hcW:=hpc c hmem
  have hcb:=clauseW_bulk hcW
  have hwc:=hpw c hmem
  obtain⟨hb1,hb2,hb3⟩:=clause_bulkT hcb
  have hh8:c.1.2.1.length≤8:=by
   unfold clauseW at hcW
   split at hcW
   ·rename_i ha;exact(atomW_bulk ha).2
   ·rename_i ha;exact absurd hcW ha
  obtain⟨pb,po,rfl,hpb,hpu,hpz,hpr⟩:=(hl.mono X.st.ge).row i c hs
  rw[rep_clause]at hpr
  obtain⟨va,vb,hpr,hh,hbd⟩:=hpr
  obtain⟨ha,hc,rfl,-,-⟩:=hh.sl
  obtain⟨ba,bc,rfl,-,-⟩:=hbd.sl
  simp only[sz_clause,hvs_4,List.cons.injEq,and_true]at hpr hpu hpz
  obtain⟨q0,q1,q2,q3⟩:=hpr
  have sp:=Step.push0 S0 u' h' #[str c.1.1,.slice ha c.1.2.1.length hc,.int .i64 c.1.2.2,.slice ba c.2.length bc] 51
  have Y:Blk (ub u' h'.size 0) (h'.push (.cells #[str c.1.1,.slice ha c.1.2.1.length hc,.int .i64 c.1.2.2,.slice ba c.2.length bc] 51)) h'.size [str c.1.1,.slice ha c.1.2.1.length hc,.int .i64 c.1.2.2,.slice ba c.2.length bc]:=(Blk.mk (by simp only[e_psz];omega) (by simp(disch:=first|omega|(simp only[zz];try omega;done)) only[go_sem]) (by simp(disch:=first|omega|(simp only[zz];try omega;done)) only[go_sem]) (by repeat (first|(refine ub_at ?_;simp only[];done)|apply ub_zero)) (by simp(disch:=first|omega|(simp only[zz];try omega;done)) only[go_sem]))
  have Bp:=B.step sp (fun _ _ h=>h)
  have Mp:=M.step sp (fun h=>h)
  have hXl:=X.lt
  have hml:=M.lt
  have X1:=X.step sp (fun _ h=>h.elim) σ rfl rfl rfl rfl rfl
  by_cases hc0:c.2=[]
  ·have hst:stepR ps cs (ri,wi) i c=(ri,factT wi (rowF ps cs c.1)):=by unfold stepR;rw[if_pos hc0]
   rw[hst]at heq
   have hl0:c.2.length=0:=by rw[hc0];rfl
   simp(disch:=first|omega|(simp only[zz];try omega;done)) only[↓reduceIte,go_sem,crBuild_L3,X.e8,e17,e94,e95,e96,hlt,q0,q1,q2,q3,eq_true (show((c.2.length:Nat):Int)=0 by omega)]
   refine effS_call (gb_fact ⟨k,ub u' h'.size 0,b,mp,mc,ms,vP,vC,vR',vF',[str c.1.1,.slice ha c.1.2.1.length hc,.int .i64 c.1.2.2],c.1,ps,cs,ri,wi,rfl,by rw[rep_atom];exact⟨_,rfl,hh.mono sp.ge⟩,Bp,Mp,hms,hh8,fun t ht=>hwc t (by unfold termsC;exact List.mem_append.2 (.inl ht)),by omega,hcs,by omega,by simp only[e_psz];omega,fun u3 h3 vj s3 B3 M3 b3=>⟨zz0,?_⟩⟩)
   simp(disch:=first|omega|(simp only[zz];try omega;done)) only[↓reduceIte,go_sem,e96]
   refine⟨i+1,?_,by omega⟩
   rw[hI]
   have hfl2:=factT_len wi (rowF ps cs c.1)
   refine⟨by simp [upd,e17],by simp [upd,e94],by simp [upd,e95],by simp [upd],hlt,u3,vR',vj,ri,_,X1.step s3 (fun j hj=>hj.elim (fun e=>by omega) (fun hj=>B.ge hj)) _ (by simp [upd]) (by simp [upd]) (by simp [upd]) (by simp [upd]) (by simp [upd]),B3,M3,?_,by omega,by omega,heq⟩
   intro hj
   rcases hj with hj|hj|hj|hj|hj|hj|hj
   ·exact hms (.inl hj)
   ·exact hms (.inr (.inl hj))
   ·exact hms (.inr (.inr (.inl hj)))
   ·exact hms (.inr (.inr (.inr (.inl hj))))
   ·exact hms (.inr (.inr (.inr (.inr (.inl hj)))))
   ·exact hms (.inr (.inr (.inr (.inr (.inr (.inl hj))))))
   ·rcases b3 _ hj with hj|hj
    ·exact hms (.inr (.inr (.inr (.inr (.inr (.inr hj))))))
    ·simp only[e_psz]at hj;omega
  ·have hst:stepR ps cs (ri,wi) i c=(ri++[ruleC ps cs i c],wi):=by unfold stepR;rw[if_neg hc0]
   rw[hst]at heq
   have hl0: ¬c.2.length=0:=fun h=>hc0 (List.eq_nil_of_length_eq_zero h)
   have hvl:=tot_lits c.2
   simp(disch:=first|omega|(simp only[zz];try omega;done)) only[↓reduceIte,go_sem,crBuild_L3,X.e8,e94,e95,e96,hlt,q0,q1,q2,q3,eq_false (show¬((c.2.length:Nat):Int)=0 by omega)]
   refine effS_call (gb_rule ⟨k,ub u' h'.size 0,b,mp,mc,_,vP,vC,vR',vF',c.2,ps,cs,ri,wi,rfl,hbd.mono sp.ge,Bp,hb1,fun x hx t ht=>hwc t (by unfold termsC;exact List.mem_append.2 (.inr (List.mem_flatMap.2 ⟨x,hx,ht⟩))),fun u3 h3 mv n l s3 hr hM hn hmv=>⟨zz0,?_⟩⟩)
   rw[rep_rule]at hr
   obtain⟨v0,v1,v2,v3,v4,rfl,i0,i1,i2,i3,i4⟩:=hr
   obtain⟨a0,c0,rfl,-,-⟩:=i0.sl
   obtain⟨a1,c1,rfl,-,-⟩:=i1.sl
   obtain⟨a2,c2,rfl,-,-⟩:=i2.sl
   obtain⟨a3,c3,rfl,-,-⟩:=i3.sl
   obtain⟨a4,c4,rfl,-,-⟩:=i4.sl
   simp only[ruleF]at i0 i1 i2 i3 i4 ⊢
   have Y3:=Y.step0 s3
   have hy3:=Y3.1
   have B3:=Bp.step s3 (fun _ _ h=>h)
   have M3:=Mp.step s3 (fun h=>h)
   have X3:=X1.step s3 (fun _ h=>h.elim) σ rfl rfl rfl rfl rfl
   simp(disch:=first|omega|(simp only[zz];try omega;done)) only[↓reduceIte,go_sem]
   have sR:=Step.push0 S0 u3 h3 #[.int .i64 0,.slice a0 0 c0,.slice a1 (posF ps cs [] c.2).length c1,.slice a2 (testsF cs (varsF c.2) c.2).length c2,.slice a3 (negsF ps cs (varsF c.2) c.2).length c3,.slice a4 (varsF c.2).length c4,.int .i64 i] 79
   have R4:Blk (ub u3 h3.size 0) (h3.push (.cells #[.int .i64 0,.slice a0 0 c0,.slice a1 (posF ps cs [] c.2).length c1,.slice a2 (testsF cs (varsF c.2) c.2).length c2,.slice a3 (negsF ps cs (varsF c.2) c.2).length c3,.slice a4 (varsF c.2).length c4,.int .i64 i] 79)) h3.size [.int .i64 0,.slice a0 0 c0,.slice a1 (posF ps cs [] c.2).length c1,.slice a2 (testsF cs (varsF c.2) c.2).length c2,.slice a3 (negsF ps cs (varsF c.2) c.2).length c3,.slice a4 (varsF c.2).length c4,.int .i64 i]:=(Blk.mk (by simp only[e_psz];omega) (by simp(disch:=first|omega|(simp only[zz];try omega;done)) only[go_sem]) (by simp(disch:=first|omega|(simp only[zz];try omega;done)) only[go_sem]) (by repeat (first|(refine ub_at ?_;simp only[];done)|apply ub_zero)) (by simp(disch:=first|omega|(simp only[zz];try omega;done)) only[go_sem]))
   have sN:=Step.push0 S0 (ub u3 h3.size 0) (h3.push (.cells #[.int .i64 0,.slice a0 0 c0,.slice a1 (posF ps cs [] c.2).length c1,.slice a2 (testsF cs (varsF c.2) c.2).length c2,.slice a3 (negsF ps cs (varsF c.2) c.2).length c3,.slice a4 (varsF c.2).length c4,.int .i64 i] 79)) #[.int .i64 (varsF c.2).length] 3
   have R5:=R4.step0 sN
   have Y5:=(Y3.step0 sR).step0 sN
   have B5:=(B3.step sR (fun _ _ h=>h)).step sN (fun _ _ h=>h)
   have M5:=(M3.step sR (fun h=>h)).step sN (fun h=>h)
   have X5:=(X3.step sR (fun _ h=>h.elim) σ rfl rfl rfl rfl rfl).step sN (fun _ h=>h.elim) σ rfl rfl rfl rfl rfl
   have V5:=(hM.step sR (fun h=>h)).step sN (fun h=>h)
   have j1:=(i1.mono sR.ge).mono sN.ge
   have j2:=(i2.mono sR.ge).mono sN.ge
   have j3:=(i3.mono sR.ge).mono sN.ge
   have j4:=(i4.mono sR.ge).mono sN.ge
   have hh5:=(((hh.mono sp.ge).mono s3.ge).mono sR.ge).mono sN.ge
   have hsz3:=s3.ge.sz
   simp only[e_psz]at sN R5 Y5 B5 M5 X5 V5 j1 j2 j3 j4 hh5 hsz3
   obtain⟨h5,hh5e⟩: ∃h5,h5=(h3.push (.cells #[.int .i64 0,.slice a0 0 c0,.slice a1 (posF ps cs [] c.2).length c1,.slice a2 (testsF cs (varsF c.2) c.2).length c2,.slice a3 (negsF ps cs (varsF c.2) c.2).length c3,.slice a4 (varsF c.2).length c4,.int .i64 i] 79)).push (.cells #[.int .i64 (varsF c.2).length] 3):=⟨_,rfl⟩
   obtain⟨u5,hu5e⟩: ∃u5,u5=ub (ub u3 h3.size 0) (h3.size+1) 0:=⟨_,rfl⟩
   rw[←hh5e,←hu5e]at R5 Y5 B5 X5 j1 j2 j3 j4 hh5
   rw[←hh5e]at M5 V5 ⊢
   obtain⟨pr,hpr⟩: ∃pr,pr=h3.size:=⟨_,rfl⟩
   obtain⟨pn,hpn⟩: ∃pn,pn=h3.size+1:=⟨_,rfl⟩
   rw[←hpr]at R5 ⊢
   have hp1:k≤pr∧pr≠ms∧pr≠mv∧pr≠h'.size∧h'.size<pr:=by have:=M3.lt;have:=hM.lt;omega
   have hp2: ¬BStB b mp mc vP vC vR' vF' pr:=fun hj=>by have:=B3.lt hj;omega
   clear hh5e hu5e sR sN R4 hM i0 i1 i2 i3 i4 s3 B3 M3 X3 Y3 hy3
   have hr5:=R5.1
   have hy5:=Y5.1
   obtain⟨w1,w2,w3,w4,w5,w6,w7,w8,w9⟩:=B5.open
   have hpid:(posL (ps.map (·.1)) c.1.1).getD 0=pids ps c.1.1:=rfl
   have hslots: ∀(K':Value→H→Prop),(∀u6 h6 (wa:Option Addr) (wc:Nat),Step S0 u5 h5 u6 h6→IsSl u6 h6 (.slice wa (c.1.2.1.map (slotN cs (varsF c.2))).length wc) (c.1.2.1.map (slotN cs (varsF c.2)))→K' (.slice wa (c.1.2.1.map (slotN cs (varsF c.2))).length wc) h6)→
     C_slots [.pointer (some ⟨b,0,none⟩),.slice ha c.1.2.1.length hc,.map (some mv),.pointer (some ⟨pr+1,0,none⟩),.bool false] h5 K':=fun K' hK'=>by
    refine⟨k,u5,b,mp,mc,mv,pr+1,n,_,vP,vC,vR',vF',c.1.2.1,ps,cs,ri,wi,varsF c.2,false,rfl,hh5,B5,V5,hn,fun t ht=>hwc t (by unfold termsC;exact List.mem_append.2 (.inl ht)),by omega,(fun h=>by cases h),fun u6 h6 w n6 s6 o6 m6 l6 b6=> ?_⟩
    have o6:Own _ u6 h6 w (c.1.2.1.map (slotN cs (varsF c.2))):=o6
    obtain⟨wa,wc,rfl,-,-⟩:=o6.sl
    exact hK' u6 h6 wa wc (s6.mono fun j _ hj=>by cases hj.1) o6.isSl
   refine w_join (fun σ' h2=>keepE σ σ' [1,2,4,5,8,17,94,95,96]∧σ' 20= .pointer (some ⟨pr,0,none⟩)∧ ∃(u2:U) (wa:Option Addr) (wc:Nat),Step (fun j=>j=pr) u5 h5 u2 h2∧IsSl u2 h2 (.slice wa (c.1.2.1.map (slotN cs (varsF c.2))).length wc) (c.1.2.1.map (slotN cs (varsF c.2)))∧
    Blk u2 h2 pr [.int .i64 (pids ps c.1.1),.slice wa (c.1.2.1.map (slotN cs (varsF c.2))).length wc,.slice a1 (posF ps cs [] c.2).length c1,.slice a2 (testsF cs (varsF c.2) c.2).length c2,.slice a3 (negsF ps cs (varsF c.2) c.2).length c3,.slice a4 (varsF c.2).length c4,.int .i64 i]) ?_ ?_
   ·simp(disch:=first|omega|(simp only[zz];try omega;done)) only[↓reduceIte,go_sem,w_both,X.e8,e17,e94,e95,e96,w1,w7,Y5.at,Y5.2.1]
    refine⟨effS_look B5.mP ⟨by simp(disch:=first|omega|(simp only[zz];try omega;done)) only[↓reduceIte,go_sem,Y5.2.1],?_⟩,effS_call (gb_slots (hslots _ fun u6 h6 wa wc s6 i6=> ?_))⟩
    ·rw[hpid]
     simp only[lookV,Bool.false_eq_true,if_false]
     simp(disch:=first|omega|(simp only[zz];try omega;done)) only[↓reduceIte,go_sem,X.e8]
     refine effS_call (gb_slots (hslots _ fun u6 h6 wa wc s6 i6=>⟨zz0,?_⟩))
     have R6:=R5.step0 s6
     have hr6:=R6.1
     simp(disch:=first|omega|(simp only[zz];try omega;done)) only[↓reduceIte,go_sem,X.e8,e17,e94,e95,e96,R6.2.1,R6.2.2.1]
     have sw:Step (fun j=>j=pr) u6 h6 u6 (hsets h6 pr 0 [.int .i64 (pids ps c.1.1),.slice wa (c.1.2.1.map (slotN cs (varsF c.2))).length wc]):=Step.sets u6 h6 _ rfl (by rw[R6.2.2.2.1];exact Nat.le_refl _) (by rw[R6.2.1];simp)
     exact⟨u6,(s6.mono fun _ _ h=>h.elim).trans sw (fun _ _ h=>h),wa,wc,i6.mono sw.ge,(R6.set (i:=0) (v:= .int .i64 (pids ps c.1.1)) (by simp)).set (i:=1) (v:= .slice wa (c.1.2.1.map (slotN cs (varsF c.2))).length wc) (by simp)⟩
    ·have Y6:=Y5.step0 s6
     have hy6:=Y6.1
     have B6:=B5.step s6 (fun _ _ h=>h)
     obtain⟨x1,x2,x3,x4,x5,x6,x7,x8,x9⟩:=B6.open
     refine⟨by simp(disch:=first|omega|(simp only[zz];try omega;done)) only[↓reduceIte,go_sem,X.e8,w7,x1,x7,Y5.at,Y6.at,Y6.2.1],?_⟩
     simp(disch:=first|omega|(simp only[zz];try omega;done)) only[↓reduceIte,go_sem]
     refine effS_look B6.mP ⟨zz0,?_⟩
     rw[hpid]
     simp only[lookV,Bool.false_eq_true,if_false]
     have R6:=R5.step0 s6
     have hr6:=R6.1
     simp(disch:=first|omega|(simp only[zz];try omega;done)) only[↓reduceIte,go_sem,X.e8,e17,e94,e95,e96,R6.2.1,R6.2.2.1]
     have sw:Step (fun j=>j=pr) u6 h6 u6 (hsets h6 pr 0 [.int .i64 (pids ps c.1.1),.slice wa (c.1.2.1.map (slotN cs (varsF c.2))).length wc]):=Step.sets u6 h6 _ rfl (by rw[R6.2.2.2.1];exact Nat.le_refl _) (by rw[R6.2.1];simp)
     exact⟨u6,(s6.mono fun _ _ h=>h.elim).trans sw (fun _ _ h=>h),wa,wc,i6.mono sw.ge,(R6.set (i:=0) (v:= .int .i64 (pids ps c.1.1)) (by simp)).set (i:=1) (v:= .slice wa (c.1.2.1.map (slotN cs (varsF c.2))).length wc) (by simp)⟩
   ·rintro σ' h2 ⟨hkE,e20,u2,wa,wc,s2,i2,R2⟩
    simp(disch:=first|omega|(simp only[zz];try omega;done)) only[go_sem,X.e1,X.e2,X.e4,X.e5,X.e8,e17,e94,e95,e96]at hkE
    obtain⟨k1,k2,k4,k5,k8,k17,k94,k95,k96⟩:=hkE
    have B2:=B5.step s2 (fun j hj e=>hp2 (by have e:j=pr:=e;rw[←e];exact hj))
    obtain⟨x1,x2,x3,x4,x5,x6,x7,x8,x9⟩:=B2.open
    have hr2:=R2.1
    have M2:=M5.step s2 (fun e=>hp1.2.1 (by have e:ms=pr:=e;exact e.symm))
    have X2:=X5.step s2 (fun j e=>by have e:j=pr:=e;omega) σ' (by rw[k1,X.e1]) (by rw[k2,X.e2]) (by rw[k4,X.e4]) (by rw[k5,X.e5]) (by rw[k8,X.e8])
    have hkh:=X2.lt.2.2.2.2.2.2.2.2.2.2
    simp(disch:=first|omega|(simp only[zz];try omega;done)) only[↓reduceIte,go_sem,k8,e20,x1,x5,R2.at,R2.2.1]
    refine effS_app1o rfl B2.oR (x:=ruleC ps cs i c) (cs:=[.int .i64 (pids ps c.1.1),.slice wa (c.1.2.1.map (slotN cs (varsF c.2))).length wc,.slice a1 (posF ps cs [] c.2).length c1,.slice a2 (testsF cs (varsF c.2) c.2).length c2,.slice a3 (negsF ps cs (varsF c.2) c.2).length c3,.slice a4 (varsF c.2).length c4,.int .i64 i]) (by
     rw[rep_rule]
     exact⟨_,_,_,_,_,rfl,i2,j1.mono s2.ge,j2.mono s2.ge,j3.mono s2.ge,j4.mono s2.ge⟩) rfl rfl hkh (by omega) fun a6 n6 c6 u6 h6 o6 s6 b6=>⟨zz0,?_⟩
    obtain⟨B6,st6⟩:=B2.putR o6 s6 b6
    have hb6: ¬OwnB vR' b:=by
     have D:=B2.dis
     simp only[Disj,List.pairwise_cons,List.mem_cons,List.not_mem_nil,or_false,forall_eq_or_imp,forall_eq,List.Pairwise.nil,and_true,false_imp_iff,implies_true]at D
     exact D.1.2.2.2.2.1
    have X6:=B2.blk.step s6 hb6
    have y1:hsz h6 b=6:=X6.2.1
    have y2:hfr h6 b=(0,0):=X6.2.2.1
    simp(disch:=first|omega|(simp only[zz];try omega;done)) only[↓reduceIte,go_sem,k8,k96,y1,y2]
    refine⟨i+1,?_,by omega⟩
    rw[hI]
    refine⟨by simp [upd,k17],by simp [upd,k94],by simp [upd,k95],by simp [upd],hlt,u6,_,vF',_,wi,X2.step st6 (fun j hj=>B2.ge hj) _ (by simp [upd]) (by simp [upd]) (by simp [upd]) (by simp [upd]) (by simp [upd]),B6,M2.step st6 hms,?_,by simp;omega,by omega,heq⟩
    intro hj
    have hml2:=M2.lt
    rcases hj with hj|hj|hj|hj|hj|hj|hj
    ·exact hms (.inl hj)
    ·exact hms (.inr (.inl hj))
    ·exact hms (.inr (.inr (.inl hj)))
    ·exact hms (.inr (.inr (.inr (.inl hj))))
    ·exact hms (.inr (.inr (.inr (.inr (.inl hj)))))
    ·rcases b6 _ hj with hj|hj
     ·exact hms (.inr (.inr (.inr (.inr (.inr (.inl hj))))))
     ·omega
    ·exact hms (.inr (.inr (.inr (.inr (.inr (.inr hj))))))
 ·obtain rfl:i=p.length:=by omega
  rw[List.drop_length]at heq
  have heq:rulesF ps cs ([],[]) 0 p=(ri,wi):=heq
  rw[heq]at hb
  simp(disch:=first|omega|(simp only[zz];try omega;done)) only[↓reduceIte,go_sem,crBuild_L3,e95,e96]
  exact bT10_ok (X.step (S:=S0) (.refl _ _ _) (fun _ h=>h.elim) _ (by simp [upd]) (by simp [upd]) (by simp [upd]) (by simp [upd]) (by simp [upd])) (by simp [upd,e17]) hlf B M hms hkm (by omega) hcs (by omega) h8 hfl hb hK
end Go.Proofs.YtmjinnbdnpedcaaGreat
