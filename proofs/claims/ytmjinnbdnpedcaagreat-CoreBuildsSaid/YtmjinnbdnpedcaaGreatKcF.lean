/- core: the build on its way: begin, names. -/
import Derived.Test.YtmjinnbdnpedcaaGreatKcE
namespace Go.Ev
open Go Rep
theorem effS_app1o {α:Type} [Rep α] {G:Ctr} {e e':TypeId} {bytes s:Nat} {z cs:List Value} {k p:Nat} {u:U} {h:H} {v:Value} {l:List α} {x:α} {d:Option Nat} {st:Stab} {r:List St} {K:Env→H→Prop} {KP:List PanicEntry→H→Prop} {σ:Env}
  (hp:p=h.size) (ho:Own k u h v l) (hx:rep u h x cs) (hs:s=sz α) (hz:z.length=sz α) (hk:k≤h.size) (hb:(l.length+1)*bytes≤140737488355328)
  (hK: ∀a n c u' h',Own k u' h' (.slice a n c) (l++[x])→Step (OwnB v) u h u' h'→(∀b,OwnB (.slice a n c) b→OwnB v b∨h.size≤b)→stabP st σ (h.push (.cells cs.toArray e')) h'∧wpSts G r K KP (updo σ d (.slice a n c)) h'):
  effS G (.app e s bytes z) d st r K KP [v,.slice (some ⟨p,0,none⟩) 1 1] σ (h.push (.cells cs.toArray e')):=by
 subst hp
 exact own_app1 (G:=G) (KP:=KP) (K:=fun v' h'=>stabP st σ (h.push (.cells cs.toArray e')) h'∧wpSts G r K KP (updo σ d v') h') ho hx hs hz hk hb (fun v' u' h' o' s' b'=>by
  obtain⟨a,c,rfl,-,-⟩:=o'.sl
  exact hK _ _ _ _ _ o' s' b')
end Go.Ev
namespace Go.Proofs.YtmjinnbdnpedcaaGreat
open Go Go.Ev Edict
variable {vs:List Value} {h:H} {K:Value→H→Prop} {KP:List PanicEntry→H→Prop}
def Disj(D:List (Nat→Prop)):Prop:=D.Pairwise fun A B=> ∀i,A i→ ¬B i
structure BSt (k:Nat) (u:U) (h:H) (b mp mc:Nat) (vP vC vR vF:Value) (ps:List Pred) (cs:List Const) (rs:List Rule) (fs:List Row):Prop where
 blk:Blk u h b [vP,vC,vR,vF,.map (some mp),.map (some mc)]
 oP:Own k u h vP ps
 oC:Own k u h vC cs
 oR:Own k u h vR rs
 oF:Own k u h vF fs
 mP:MapB h mp (posL (ps.map (·.1))) ps.length
 mC:MapG ksC encC h mc (posL cs) cs.length
 dis:Disj [(· =b),(· =mp),(· =mc),OwnB vP,OwnB vC,OwnB vR,OwnB vF]
 kb:k≤b
 kp:k≤mp
 kc:k≤mc
def BStB(b mp mc:Nat)(vP vC vR vF:Value):Nat→Prop:=fun i=>i=b∨i=mp∨i=mc∨OwnB vP i∨OwnB vC i∨OwnB vR i∨OwnB vF i
theorem BSt.step {k:Nat} {S:Nat→Prop} {u u':U} {h h':H} {b mp mc:Nat} {vP vC vR vF:Value} {ps:List Pred} {cs:List Const} {rs:List Rule} {fs:List Row} (B:BSt k u h b mp mc vP vC vR vF ps cs rs fs) (s:Step S u h u' h')
  (hn: ∀i,BStB b mp mc vP vC vR vF i→ ¬S i):BSt k u' h' b mp mc vP vC vR vF ps cs rs fs where
 blk:=B.blk.step s (hn _ (.inl rfl))
 oP:=B.oP.step s fun i hi=>hn _ (.inr (.inr (.inr (.inl hi))))
 oC:=B.oC.step s fun i hi=>hn _ (.inr (.inr (.inr (.inr (.inl hi)))))
 oR:=B.oR.step s fun i hi=>hn _ (.inr (.inr (.inr (.inr (.inr (.inl hi))))))
 oF:=B.oF.step s fun i hi=>hn _ (.inr (.inr (.inr (.inr (.inr (.inr hi))))))
 mP:=B.mP.step s (hn _ (.inr (.inl rfl)))
 mC:=B.mC.step s (hn _ (.inr (.inr (.inl rfl))))
 dis:=B.dis
 kb:=B.kb
 kp:=B.kp
 kc:=B.kc
def C_begin(vs:List Value)(h:H)(K:Value→H→Prop):Prop:= ∃u:U,vs=[]∧ ∀u' h' (b mp mc:Nat),Step S0 u h u' h'→BSt h.size u' h' b mp mc (.slice none 0 0) (.slice none 0 0) (.slice none 0 0) (.slice none 0 0) [] [] [] []→K (.pointer (some ⟨b,0,none⟩)) h'
theorem crBegin_ok(hC:C_begin vs h K):HCX Tryz.prog 21 vs h K KP:=by
 obtain⟨u,rfl,hK⟩:=hC
 refine crBegin_H (fun _ _ _ _ _=>False) (fun _ _ _ _ _ h=>h.elim) ?_
 simp(disch:=first|omega|(simp only[zz];try omega;done)) only[go_sem,crBegin_S,crBegin_E]
 refine effS_mkm u fun u1 h1 s1 m1=>⟨zz0,?_⟩
 simp(disch:=first|omega|(simp only[zz];try omega;done)) only[go_sem]
 refine effS_mkmg ksC encC u1 fun u2 h2 s2 m2=>⟨zz0,?_⟩
 have sp:=Step.push0 S0 u2 h2 #[.slice none 0 0,.slice none 0 0,.slice none 0 0,.slice none 0 0,.map (some h.size),.map (some h1.size)] 97
 have m1':=(m1.step s2 (fun h=>h)).step sp (fun h=>h)
 have m2':=m2.step sp (fun h=>h)
 have z1:=m1.lt
 have z2:=m2.lt
 have z3:=s2.ge.sz
 have X:Blk (ub u2 h2.size 0) (h2.push (.cells #[.slice none 0 0,.slice none 0 0,.slice none 0 0,.slice none 0 0,.map (some h.size),.map (some h1.size)] 97)) h2.size [.slice none 0 0,.slice none 0 0,.slice none 0 0,.slice none 0 0,.map (some h.size),.map (some h1.size)]:=(Blk.mk (by simp only[e_psz];omega) (by simp(disch:=first|omega|(simp only[zz];try omega;done)) only[go_sem]) (by simp(disch:=first|omega|(simp only[zz];try omega;done)) only[go_sem]) (by repeat (first|(refine ub_at ?_;simp only[];done)|apply ub_zero)) (by simp(disch:=first|omega|(simp only[zz];try omega;done)) only[go_sem]))
 simp(disch:=first|omega|(simp only[zz];try omega;done)) only[↓reduceIte,go_sem]
 refine hK _ _ h2.size h.size h1.size ((s1.trans0 s2).trans0 sp) ⟨X,.nil _ _ _,.nil _ _ _,.nil _ _ _,.nil _ _ _,m1',m2',?_,by omega,Nat.le_refl _,by omega⟩
 simp only[Disj,List.pairwise_cons,List.mem_cons,List.not_mem_nil,or_false,forall_eq_or_imp,forall_eq,List.Pairwise.nil,and_true,false_imp_iff,implies_true,ownb_none,not_false_eq_true]
 omega
theorem own_hset{α:Type} [Rep α]{k:Nat}{u:U}{h:H}{v:Value}{l:List α}{b o:Nat}{x:Value}(ho:Own k u h v l)(hb: ¬OwnB v b)(hu:u b=0):Own k u (hset h b o x) v l:=
 ho.step (Step.set (S:=fun i=>i=b) u h x rfl (by rw[hu];exact Nat.zero_le _)) (fun i hi e=>hb (by have e:i=b:=e;rw[←e];exact hi))
theorem BSt.putP {k:Nat} {u u1 u2:U} {h h1 h2:H} {b mp mc:Nat} {vP vC vR vF vP':Value} {ps:List Pred} {cs:List Const} {rs:List Rule} {fs:List Row} {x:Pred} (B:BSt k u h b mp mc vP vC vR vF ps cs rs fs)
  (s1:Step (fun i=>i=mp) u h u1 h1) (m1:MapB h1 mp (posL ((ps++[x]).map (·.1))) (ps++[x]).length) (o2:Own k u2 h2 vP' (ps++[x])) (s2:Step (OwnB vP) u1 h1 u2 h2) (hb: ∀i,OwnB vP' i→OwnB vP i∨h1.size≤i):
  BSt k u2 (hset h2 b 0 vP') b mp mc vP' vC vR vF (ps++[x]) cs rs fs∧Step (BStB b mp mc vP vC vR vF) u h u2 (hset h2 b 0 vP'):=by
 have D:=B.dis
 simp only[Disj,List.pairwise_cons,List.mem_cons,List.not_mem_nil,or_false,forall_eq_or_imp,forall_eq,List.Pairwise.nil,and_true,false_imp_iff,implies_true]at D
 obtain⟨⟨d1,d2,d3,d4,d5,d6⟩,⟨d7,d8,d9,d10,d11⟩,⟨d12,d13,d14,d15⟩,⟨d16,d17,d18⟩,⟨d19,d20⟩,d21⟩:=D
 have X1:=B.blk.step s1 d1
 have X2:=X1.step s2 d3
 have C1:=B.oC.step s1 (fun i hi e=>d9 (by have e:i=mp:=e;rw[←e];exact hi))
 have C2:=C1.step s2 (fun i hi e=>d16 i e hi)
 have R1:=B.oR.step s1 (fun i hi e=>d10 (by have e:i=mp:=e;rw[←e];exact hi))
 have R2:=R1.step s2 (fun i hi e=>d17 i e hi)
 have F1:=B.oF.step s1 (fun i hi e=>d11 (by have e:i=mp:=e;rw[←e];exact hi))
 have F2:=F1.step s2 (fun i hi e=>d18 i e hi)
 have mP2:=m1.step s2 d8
 have mC1:=B.mC.step s1 (fun e=>d7 (by have e:mc=mp:=e;rw[e]))
 have mC2:=mC1.step s2 d12
 have hbl:=X1.1
 have hmcl:=mC1.lt
 have hmpl:=m1.lt
 have hnew: ∀j,j<h1.size→ ¬OwnB vP j→ ¬OwnB vP' j:=fun j hj hn hv=>(hb j hv).elim hn (fun h=>by omega)
 have sw:Step (fun i=>i=b) u2 h2 u2 (hset h2 b 0 vP'):=Step.set u2 h2 vP' rfl (by rw[X2.2.2.2.1];exact Nat.le_refl _)
 have sall:Step (BStB b mp mc vP vC vR vF) u h u2 (hset h2 b 0 vP'):=((s1.mono (S':=BStB b mp mc vP vC vR vF) (fun i _ e=> .inr (.inl e))).trans s2 (fun i _ hi=> .inr (.inr (.inr (.inl hi))))).trans sw (fun i _ e=> .inl e)
 have hP'b: ¬OwnB vP' b:=hnew b hbl d3
 have hcl: ∀j,OwnB vC j→ ¬OwnB vP' j:=fun j hj=>hnew j (C1.lt hj) (fun hv=>d16 j hv hj)
 have hrl: ∀j,OwnB vR j→ ¬OwnB vP' j:=fun j hj=>hnew j (R1.lt hj) (fun hv=>d17 j hv hj)
 have hfl: ∀j,OwnB vF j→ ¬OwnB vP' j:=fun j hj=>hnew j (F1.lt hj) (fun hv=>d18 j hv hj)
 refine⟨⟨X2.set (i:=0) (v:=vP') (by simp),own_hset o2 hP'b X2.2.2.2.1,own_hset C2 d4 X2.2.2.2.1,own_hset R2 d5 X2.2.2.2.1,own_hset F2 d6 X2.2.2.2.1,mP2.step sw (fun e=>d1 (by have e:mp=b:=e;rw[e])),mC2.step sw (fun e=>d2 (by have e:mc=b:=e;rw[e])),?_,B.kb,B.kp,B.kc⟩,sall⟩
 simp only[Disj,List.pairwise_cons,List.mem_cons,List.not_mem_nil,or_false,forall_eq_or_imp,forall_eq,List.Pairwise.nil,and_true,false_imp_iff,implies_true]
 exact⟨⟨d1,d2,hP'b,d4,d5,d6⟩,⟨d7,hnew mp hmpl d8,d9,d10,d11⟩,⟨hnew mc hmcl d12,d13,d14,d15⟩,⟨fun j hv hj=>hcl j hj hv,fun j hv hj=>hrl j hj hv,fun j hv hj=>hfl j hj hv⟩,⟨d19,d20⟩,d21⟩
theorem BSt.open{k:Nat}{u:U}{h:H}{b mp mc:Nat}{vP vC vR vF:Value}{ps:List Pred}{cs:List Const}{rs:List Rule}{fs:List Row}(B:BSt k u h b mp mc vP vC vR vF ps cs rs fs):
  hsz h b=6∧hfr h b=(0,0)∧Go.Ev.hv h b 0=vP∧Go.Ev.hv h b 1=vC∧Go.Ev.hv h b 2=vR∧Go.Ev.hv h b 3=vF∧Go.Ev.hv h b 4= .map (some mp)∧Go.Ev.hv h b 5= .map (some mc)∧b<h.size:=
 ⟨B.blk.2.1,B.blk.2.2.1,B.blk.at 0 (by simp),B.blk.at 1 (by simp),B.blk.at 2 (by simp),B.blk.at 3 (by simp),B.blk.at 4 (by simp),B.blk.at 5 (by simp),B.blk.1⟩
def C_bnames(vs:List Value)(h:H)(K:Value→H→Prop):Prop:= ∃(k:Nat) (u:U) (b mp mc:Nat) (v vP vC vR vF:Value) (al:List Atom) (ps:List Pred) (cs:List Const) (rs:List Rule) (fs:List Row),vs=[.pointer (some ⟨b,0,none⟩),v]∧IsSl u h v al∧BSt k u h b mp mc vP vC vR vF ps cs rs fs∧
 ps.length+al.length≤1048576∧k≤h.size∧
 ∀u' h' vP',Step (BStB b mp mc vP vC vR vF) u h u' h'→BSt k u' h' b mp mc vP' vC vR vF (al.foldl namT ps) cs rs fs→(∀i,OwnB vP' i→OwnB vP i∨h.size≤i)→K (.tuple #[]) h'
theorem namT_len(ps:List Pred)(a:Atom):(namT ps a).length≤ps.length+1:=by unfold namT;split<;>simp
theorem crNames_ok(hC:C_bnames vs h K):HCX Tryz.prog 22 vs h K KP:=by
 obtain⟨k,u,b,mp,mc,v,vP,vC,vR,vF,al,ps,cs,rs,fs,rfl,hl,B,hlen,hkh,hK⟩:=hC
 obtain⟨la,lc,rfl,q1,q2⟩:=hl.sl
 have hm:=mlen'
 refine crNames_H G_crVars G_crVars_ok _ _ ?_
 simp(disch:=first|omega|(simp only[zz];try omega;done)) only[↓reduceIte,go_sem,crNames_S,crNames_E]
 obtain⟨I,hI⟩: ∃I:Nat→Env→H→Prop,I=fun i σ h'=>σ 0= .pointer (some ⟨b,0,none⟩)∧σ 8= .slice la al.length lc∧σ 9= .int .i64 al.length∧σ 10= .int .i64 i∧i≤al.length∧
  ∃(u':U) (vi:Value),Step (BStB b mp mc vP vC vR vF) u h u' h'∧BSt k u' h' b mp mc vi vC vR vF ((al.take i).foldl namT ps) cs rs fs∧(∀j,OwnB vi j→OwnB vP j∨h.size≤j)∧((al.take i).foldl namT ps).length≤ps.length+i:=⟨_,rfl⟩
 refine wpS_loop I (fun i=>al.length - i) 0 (by
  rw[hI]
  exact⟨by simp [upd],by simp [upd],by simp [upd],by simp [upd],Nat.zero_le _,u,vP,.refl _ _ _,B,fun j hj=> .inl hj,by simp⟩) ?_
 intro i σ h' hy
 rw[hI]at hy
 obtain⟨e0,e8,e9,e10,hi,u',vi,st,B',hvi,hpl⟩:=hy
 by_cases hlt:i<al.length
 ·obtain⟨x,hs⟩: ∃x,al[i]? =some x:=⟨al[i],by simp [hlt]⟩
  have hsn:=fold_snoc (f:=namT) (b:=ps) hs
  obtain⟨pi,hpi⟩: ∃pi,pi=(al.take i).foldl namT ps:=⟨_,rfl⟩
  rw[←hpi]at B' hsn hpl
  obtain⟨pb,po,rfl,hpb,hpu,hpz,hpr⟩:=(hl.mono st.ge).row i x hs
  rw[rep_atom]at hpr
  obtain⟨pv,hpr,hpv⟩:=hpr
  obtain⟨pva,pvc,rfl,r1,r2⟩:=hpv.sl
  simp only[sz_atom,hvs_3,List.cons.injEq,and_true]at hpr hpu hpz
  obtain⟨p0,p1,p2⟩:=hpr
  have sp:=Step.push0 S0 u' h' #[str x.1,.slice pva x.2.1.length pvc,.int .i64 x.2.2] 48
  have X:Blk (ub u' h'.size 0) (h'.push (.cells #[str x.1,.slice pva x.2.1.length pvc,.int .i64 x.2.2] 48)) h'.size [str x.1,.slice pva x.2.1.length pvc,.int .i64 x.2.2]:=(Blk.mk (by simp only[e_psz];omega) (by simp(disch:=first|omega|(simp only[zz];try omega;done)) only[go_sem]) (by simp(disch:=first|omega|(simp only[zz];try omega;done)) only[go_sem]) (by repeat (first|(refine ub_at ?_;simp only[];done)|apply ub_zero)) (by simp(disch:=first|omega|(simp only[zz];try omega;done)) only[go_sem]))
  have Bp:=B'.step sp (fun _ _ h=>h)
  obtain⟨z1,z2,z3,z4,z5,z6,z7,z8,z9⟩:=B'.open
  simp(disch:=first|omega|(simp only[zz];try omega;done)) only[↓reduceIte,go_sem,crNames_L1,e0,e8,e9,e10,hlt,p0,p1,p2,z1,z7]
  have next: ∀(σ':Env) (u3:U) (h3:H) (vj:Value),σ' 0=σ 0→σ' 8=σ 8→σ' 9=σ 9→σ' 10= .int .i64 ((i:Int)+1)→Step (BStB b mp mc vP vC vR vF) u h u3 h3→BSt k u3 h3 b mp mc vj vC vR vF (namT pi x) cs rs fs→(∀j,OwnB vj j→OwnB vP j∨h.size≤j)→
    ∃y,I y σ' h3∧al.length - y<al.length - i:=fun σ' u3 h3 vj g0 g8 g9 g10 s3 B3 hb3=>by
   refine⟨i+1,?_,by omega⟩
   rw[hI]
   have:=namT_len pi x
   exact⟨by rw[g0,e0],by rw[g8,e8],by rw[g9,e9],g10,hlt,u3,vj,s3,by rw[hsn];exact B3,hb3,by rw[hsn];omega⟩
  refine effS_call ⟨rfl,ub u' h'.size 0,mp,posL (pi.map (·.1)),pi.length,x.1,rfl,Bp.mP,by omega,fun w hw=>⟨zz0,?_⟩,fun hw h2 s2 hm2=>⟨zz0,?_⟩⟩
  ·have hin:x.1∈pi.map (·.1):=posL_some.1 (by rw[hw];rfl)
   have hnt:namT pi x=pi:=by unfold namT;rw[if_pos hin]
   simp(disch:=first|omega|(simp only[zz];try omega;done)) only[↓reduceIte,go_sem,e10]
   exact next _ _ _ vi (by simp [upd]) (by simp [upd]) (by simp [upd]) (by simp [upd]) (st.trans0 sp) (by rw[hnt];exact Bp) hvi
  ·have hin:x.1 ∉ pi.map (·.1):=fun hq=>by have:=posL_some.2 hq;rw[hw]at this;cases this
   have hnt:namT pi x=pi++[(x.1,(x.2.1.length:Int))]:=by unfold namT;rw[if_neg hin]
   have D:=Bp.dis
   simp only[Disj,List.pairwise_cons,List.mem_cons,List.not_mem_nil,or_false,forall_eq_or_imp,forall_eq,List.Pairwise.nil,and_true,false_imp_iff,implies_true]at D
   have Y2:=Bp.blk.step s2 D.1.1
   have hmpl:=Bp.mP.lt
   have X2:=X.step s2 (fun e=>by have e:h'.size=mp:=e;have:=B'.mP.lt;omega)
   have o2:=Bp.oP.step s2 (fun j hj e=>D.2.1.2.1 (by have e:j=mp:=e;rw[←e];exact hj))
   have hk2:k≤h2.size:=Nat.le_trans Bp.kb (Nat.le_of_lt Y2.1)
   have hyl:=Y2.1
   simp(disch:=first|omega|(simp only[zz];try omega;done)) only[↓reduceIte,go_sem,e0,X2.at,X2.2.1,Y2.at,Y2.2.1]
   refine effS_app1o rfl o2 (x:=(x.1,(x.2.1.length:Int))) (cs:=[str x.1,.int .i64 x.2.1.length]) (by rw[rep_pred]) rfl rfl hk2 (by omega) fun a n c u3 h3 o3 s3 b3=>⟨zz0,?_⟩
   have em:putm (posL (pi.map (·.1))) x.1 (pi.length:Int)=posL ((pi++[(x.1,(x.2.1.length:Int))]).map (·.1)):=by
    funext s
    rw[List.map_append,List.map_cons,List.map_nil,posL_snoc hin,List.length_map];rfl
   rw[em]at hm2
   obtain⟨B3,st3⟩:=Bp.putP s2 (by simpa using hm2) o3 s3 b3
   have y1:hsz h3 b=6:=by rw[(s3.ge.hs b Y2.1).1];exact Y2.2.1
   have y2:hfr h3 b=(0,0):=by rw[(s3.ge.hs b Y2.1).2];exact Y2.2.2.1
   simp(disch:=first|omega|(simp only[zz];try omega;done)) only[↓reduceIte,go_sem,e0,e10,y1,y2]
   refine next _ _ _ _ (by simp [upd]) (by simp [upd]) (by simp [upd]) (by simp [upd]) ?_ (by rw[hnt];exact B3) (fun j hj=> ?_)
   ·refine(st.trans0 sp).trans st3 (fun j hj hB=> ?_)
    rcases hB with hB|hB|hB|hB|hB
    ·exact .inl hB
    ·exact .inr (.inl hB)
    ·exact .inr (.inr (.inl hB))
    ·exact .inr (.inr (.inr (.inl ((hvi j hB).elim id (fun h=>by omega)))))
    ·exact .inr (.inr (.inr (.inr hB)))
   ·have z1:=(st.trans0 sp).ge.sz
    have z2:=s2.ge.sz
    rcases b3 j hj with hB|hB
    ·exact hvi j hB
    ·exact .inr (by omega)
 ·obtain rfl:i=al.length:=by omega
  rw[List.take_length]at B'
  simp(disch:=first|omega|(simp only[zz];try omega;done)) only[↓reduceIte,go_sem,crNames_L1,e9,e10]
  exact hK _ _ _ st B' hvi
end Go.Proofs.YtmjinnbdnpedcaaGreat
