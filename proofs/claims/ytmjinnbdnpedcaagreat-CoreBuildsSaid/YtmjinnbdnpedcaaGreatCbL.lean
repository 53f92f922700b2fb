/- The reference's Build: rows. -/
import Derived.Test.YtmjinnbdnpedcaaGreatCbK
namespace Go.Proofs.YtmjinnbdnpedcaaGreat
open Go Go.Ev Edict
variable {vs:List Value} {h:H} {K:Value→H→Prop} {KP:List PanicEntry→H→Prop}
def C_row(vs:List Value)(h:H)(K:Value→H→Prop):Prop:= ∃(u:U) (f:Nat) (ps:List Pred) (cs:List Const) (a:Atom) (l:List Value),vs=[.pointer (some ⟨f,0,none⟩),.agg l.toArray]∧Rep.rep u h a l∧FrB u h f ps cs∧a.2.1.length≤1000000∧(∀t∈a.2.1,cnst t∈cs)∧ ∀u' h' l',Step S0 u h u' h'→Rep.rep u' h' (rowR ps cs a) l'→K (.agg l'.toArray) h'
def G_rfRow:Ctr:=fun f vs h K _=>(f=35∧C_pred vs h K)∨(f=13∧C_cnst vs h K)∨(f=41∧C_id vs h K)
theorem G_rfRow_ok:GOk Tryz.prog G_rfRow:=by
 rintro f vs h K KP (⟨rfl,hC⟩|⟨rfl,hC⟩|⟨rfl,hC⟩)
 ·exact rfPred_ok hC
 ·exact rfConst_ok hC
 ·exact rfId_ok hC
theorem rfRow_ok(hC:C_row vs h K):HCX Tryz.prog 15 vs h K KP:=by
 obtain⟨u,f,ps,cs,a,l,rfl,ha,hF,hal,hac,hK⟩:=hC
 rw[rep_atom]at ha
 obtain⟨aw,rfl,haa⟩:=ha
 obtain⟨aa,ac,rfl,q3,q4⟩:=haa.sl
 have hm:=mlen'
 refine rfRow_H G_rfRow G_rfRow_ok _ _ ?_
 have s1:=Step.push0 S0 u h #[str a.1,.slice aa a.2.1.length ac,.int .i64 a.2.2] 48
 have B1:=Blk.new (u:=u) (h:=h) [str a.1,.slice aa a.2.1.length ac,.int .i64 a.2.2] 48
 have s2:=Step.push0 S0 (ub u h.size 0) (h.push (.cells #[str a.1,.slice aa a.2.1.length ac,.int .i64 a.2.2] 48)) #[.int .i64 0,.slice none 0 0] 69
 have B2:=Blk.new (u:=ub u h.size 0) (h:=h.push (.cells #[str a.1,.slice aa a.2.1.length ac,.int .i64 a.2.2] 48)) [.int .i64 0,.slice none 0 0] 69
 have B1:=B1.step0 s2
 have st2:=s1.trans0 s2
 obtain⟨u2,hu2⟩: ∃u2,u2=ub (ub u h.size 0) (h.push (.cells #[str a.1,.slice aa a.2.1.length ac,.int .i64 a.2.2] 48)).size 0:=⟨_,rfl⟩
 obtain⟨h2,hh2⟩: ∃h2,h2=(h.push (.cells #[str a.1,.slice aa a.2.1.length ac,.int .i64 a.2.2] 48)).push (.cells #[.int .i64 0,.slice none 0 0] 69):=⟨_,rfl⟩
 have hz2:h2.size=h.size+2:=by rw[hh2];simp only[e_psz]
 have B2:Blk u2 h2 (h.size+1) [.int .i64 0,.slice none 0 0]:=by rw[hu2,hh2];simpa only[e_psz]using B2
 have B1:Blk u2 h2 h.size [str a.1,.slice aa a.2.1.length ac,.int .i64 a.2.2]:=by rw[hu2,hh2];exact B1
 have st2:Step S0 u h u2 h2:=by rw[hu2,hh2];exact st2
 have b1l:=B1.1
 have b2l:=B2.1
 obtain⟨vps,b,hFb,hFp,hFB⟩:=(hF.step0 st2).ex
 have hfl:=hFb.1
 simp(disch:=first|omega|(simp only[zz];try omega;done)) only[↓reduceIte,go_sem,rfRow_S,rfRow_E,←hh2]
 obtain⟨M,hM⟩: ∃M:Env→H→Prop,M=fun σ' h3=> ∃u3,Step S0 u2 h2 u3 h3∧σ' 0= .pointer (some ⟨f,0,none⟩)∧σ' 3= .pointer (some ⟨h.size,0,none⟩)∧σ' 4= .pointer (some ⟨h.size+1,0,none⟩)∧σ' 5= .pointer (some ⟨h.size+2,0,none⟩)∧h3.size=h.size+3∧Blk u3 h3 h.size [str a.1,.slice aa a.2.1.length ac,.int .i64 a.2.2]∧Blk u3 h3 (h.size+1) [.int .i64 0,.slice none 0 0]∧Blk u3 h3 (h.size+2) [.int .i64 (predI ps a.1),.slice none 0 0]:=⟨_,rfl⟩
 refine w_join M ?_ ?_
 ·have sp:=Step.push0 S0 u2 h2 #[.int .i64 (predI ps a.1),.slice none 0 0] 69
  have P3:=Blk.new (u:=u2) (h:=h2) [.int .i64 (predI ps a.1),.slice none 0 0] 69
  rw[hz2]at P3
  have fin: ∀σ':Env,σ' 0= .pointer (some ⟨f,0,none⟩)→σ' 3= .pointer (some ⟨h.size,0,none⟩)→σ' 4= .pointer (some ⟨h.size+1,0,none⟩)→σ' 5= .pointer (some ⟨h2.size,0,none⟩)→M σ' (h2.push (.cells #[.int .i64 (predI ps a.1),.slice none 0 0] 69)):=fun σ' g0 g4 g6 g7=>by
   rw[hM]
   exact⟨_,sp,g0,g4,g6,by rw[g7,hz2],by simp only[e_psz];omega,B1.step0 sp,B2.step0 sp,by rw[hz2];exact P3⟩
  simp(disch:=first|omega|(simp only[zz];try omega;done)) only[↓reduceIte,go_sem,w_both,B1.at,B1.2.1,hFb.at,hFb.2.1]
  refine⟨effS_call (.inl ⟨rfl,u2,vps,ps,a.1,rfl,hFp,by simp(disch:=first|omega|(simp only[zz];try omega;done)) only[go_sem],?_⟩),?_⟩
  ·simp(disch:=first|omega|(simp only[zz];try omega;done)) only[↓reduceIte,go_sem]
   exact fin _ (by simp [upd]) (by simp [upd]) (by simp [upd]) (by simp [upd])
  ·have sp0:=Step.push0 S0 u2 h2 #[.int .i64 0,.slice none 0 0] 69
   refine effS_call (.inl ⟨rfl,_,vps,ps,a.1,rfl,hFp.mono sp0.ge,by simp(disch:=first|omega|(simp only[zz];try omega;done)) only[go_sem],?_⟩)
   simp(disch:=first|omega|(simp only[zz];try omega;done)) only[↓reduceIte,go_sem]
   exact fin _ (by simp [upd]) (by simp [upd]) (by simp [upd]) (by simp [upd])
 intro σ3 h3 hM3
 rw[hM]at hM3
 obtain⟨u3,s23,g0,g3,g4,g5,hz3,A3,R3,P3⟩:=hM3
 clear hM M
 have F3:=hFb.step0 s23
 have D3:=hFB.step0 s23
 have st3:=st2.trans0 s23
 have hf2:f<h.size:=by obtain⟨x,y,hb,-⟩:=hF.ex;exact hb.1
 have hb2:b<h.size+3:=by
  obtain⟨_,_,_,_,hb,-⟩:=D3.ex
  have:=hb.1;omega
 simp(disch:=first|omega|(simp only[zz];try omega;done)) only[go_sem]
 obtain⟨I,hI⟩: ∃I:Nat→Env→H→Prop,I=fun i σ h'=>σ 0= .pointer (some ⟨f,0,none⟩)∧σ 3= .pointer (some ⟨h.size,0,none⟩)∧σ 4= .pointer (some ⟨h.size+1,0,none⟩)∧σ 5= .pointer (some ⟨h.size+2,0,none⟩)∧σ 6= .int .i64 i∧i≤a.2.1.length∧
  ∃u' w,Step S0 u h u' h'∧h.size+3≤h'.size∧Blk u' h' f [vps,.pointer (some ⟨b,0,none⟩)]∧BookB u' h' b cs∧Blk u' h' h.size [str a.1,.slice aa a.2.1.length ac,.int .i64 a.2.2]∧Blk u' h' (h.size+1) [.int .i64 0,.slice none 0 0]∧Blk u' h' (h.size+2) [.int .i64 (predI ps a.1),w]∧Own (h.size+3) u' h' w ((a.2.1.take i).map fun t=>idL cs (cnst t)):=⟨_,rfl⟩
 have hb0:b≠h.size+2→True:=fun _=>trivial
 refine wpS_loop I (fun i=>a.2.1.length - i) 0 (by rw[hI];exact⟨by simp [upd,g0],by simp [upd,g3],by simp [upd,g4],by simp [upd,g5],by simp [upd],Nat.zero_le _,u3,_,st3,by omega,F3,D3,A3,R3,P3,.nil _ _ _⟩) ?_
 have hbf:b<h.size+2:=by
  obtain⟨_,_,_,_,hb,-⟩:=hFB.ex
  have:=hb.1;omega
 clear g0 g3 g4 g5 st3 hz3 A3 R3 P3 F3 D3 s23
 intro i σ h' hy
 rw[hI]at hy
 obtain⟨e0,e3,e4,e5,e6,hi,u',w,st,hz,F,D,A,R,P,ho⟩:=hy
 have al:=A.1
 have rl:=R.1
 have pl:=P.1
 have fl:=F.1
 by_cases hlt:i<a.2.1.length
 ·obtain⟨x,hs⟩: ∃x,a.2.1[i]? =some x:=⟨a.2.1[i],by simp [hlt]⟩
  obtain⟨pb,po,rfl,hpb,hpu,hpz,hpr⟩:=(haa.mono st.ge).row i x hs
  simp only[rep_term,Term.enc,sz_term,hvs_4,List.cons.injEq,and_true]at hpr hpu hpz
  obtain⟨p0,p1,p2,p3⟩:=hpr
  obtain⟨wa,wc,rfl,-,-⟩:=ho.sl
  have hln:((a.2.1.take i).map fun t=>idL cs (cnst t)).length≤i:=by rw[List.length_map,List.length_take];exact Nat.min_le_left _ _
  have htk:=take_map_snoc (f:=fun t=>idL cs (cnst t)) hs
  obtain⟨Z,hZ⟩: ∃Z,Z=(a.2.1.take i).map fun t=>idL cs (cnst t):=⟨_,rfl⟩
  rw[←hZ]at ho hln htk P
  simp(disch:=first|omega|(simp only[zz];try omega;done)) only[↓reduceIte,go_sem,rfRow_L1,e0,e3,e5,e6,A.at,A.2.1,F.at,F.2.1,P.at,P.2.1,hlt,p0,p1,p2,p3]
  refine effS_call (.inr (.inl ⟨rfl,u',x,rfl,fun u4 h4 s4=> ?_⟩))
  have P4:=P.step0 s4
  have F4:=F.step0 s4
  have D4:=D.step0 s4
  have p4l:=P4.1
  have f4l:=F4.1
  refine⟨by simp(disch:=first|omega|(simp only[zz];try omega;done)) only[↓reduceIte,go_sem,e0,e5,P4.at,P4.2.1,P.at,F4.at,F4.2.1,F.at],?_⟩
  simp(disch:=first|omega|(simp only[zz];try omega;done)) only[↓reduceIte,go_sem]
  refine effS_call (.inr (.inr ⟨rfl,u4,b,cs,cnst x,rfl,D4,hac x (List.mem_of_getElem? hs),fun u5 h5 s5=> ?_⟩))
  have P5:=P4.step0 s5
  have p5l:=P5.1
  refine⟨by simp(disch:=first|omega|(simp only[zz];try omega;done)) only[↓reduceIte,go_sem,e5,P4.at,P5.at,P5.2.1],?_⟩
  have s45:=s4.trans0 s5
  have st5:=st.trans0 s45
  have ho5:=ho.step0 s45
  have hz5:=s45.ge.sz
  have hri:Rep.rep u5 h5 (idL cs (cnst x)) [.int .i64 (idL cs (cnst x))]:=by rw[rep_int]
  simp(disch:=first|omega|(simp only[zz];try omega;done)) only[↓reduceIte,go_sem,e5,P5.at,P5.2.1]
  refine effS_app1o (e':=3) (cs:=[.int .i64 (idL cs (cnst x))]) rfl ho5 hri rfl rfl (by omega) (by omega) fun a6 n6 c6 u6 h6 o6 s6 w6=>⟨zz0,?_⟩
  have st6:=st5.own s6 fun j hj=>by have:=ho5.ge hj;omega
  have nb: ∀j,j<h.size+3→ ¬OwnB (.slice wa Z.length wc) j:=fun j h1 hj=>by have:=ho5.ge hj;omega
  have F6:=(F4.step0 s5).step s6 (nb _ (by omega))
  have D6:=(D4.step0 s5).step s6 (nb _ (by omega))
  have A6:=(A.step0 s45).step s6 (nb _ (by omega))
  have R6:=(R.step0 s45).step s6 (nb _ (by omega))
  have P6:=P5.step s6 (nb _ (by omega))
  have hz6:=s6.ge.sz
  obtain⟨xa6,xc6,hx6,-,-⟩:=o6.sl
  cases hx6
  obtain⟨W,hW⟩: ∃W,W=Z++[idL cs (cnst x)]:=⟨_,rfl⟩
  have hWl:Z.length+1=W.length:=by rw[hW,List.length_append];rfl
  rw[←hW]at o6 htk ⊢
  have sw:=P6.stepSet (i:=1) (v:= .slice a6 W.length c6)
  have P7:Blk u6 (hset h6 (h.size+2) 1 (.slice a6 W.length c6)) (h.size+2) [.int .i64 (predI ps a.1),.slice a6 W.length c6]:=P6.set (i:=1) (v:= .slice a6 W.length c6) (by simp)
  have n2: ∀j,j<h.size+2→ ¬j=h.size+2:=fun j h1 e=>by omega
  have F7:=F6.step sw (n2 _ (by omega))
  have D7:=D6.step sw (n2 _ hbf)
  have A7:=A6.step sw (n2 _ (by omega))
  have R7:=R6.step sw (n2 _ (by omega))
  have o7:=o6.step sw fun b hb e=>by have e:b=h.size+2:=e;have:=o6.ge hb;omega
  have st7:=st6.own sw fun j e=>by have e:j=h.size+2:=e;omega
  have hz7:=sw.ge.sz
  have p6l:=P6.1
  simp(disch:=first|omega|(simp only[zz];try omega;done)) only[↓reduceIte,go_sem,e5,e6,P6.2.1,P6.2.2.1]
  refine⟨i+1,?_,by omega⟩
  rw[hI]
  exact⟨by simp [upd,e0],by simp [upd,e3],by simp [upd,e4],by simp [upd,e5],by simp [upd],hlt,u6,.slice a6 W.length c6,st7,by omega,F7,D7,A7,R7,P7,by rw[htk];exact o7⟩
 ·obtain rfl:i=a.2.1.length:=by omega
  rw[List.take_length]at ho
  obtain⟨wa,wc,rfl,-,-⟩:=ho.sl
  obtain⟨W,hW⟩: ∃W,W=a.2.1.map fun t=>idL cs (cnst t):=⟨_,rfl⟩
  have hrw:rowR ps cs a=(predI ps a.1,W):=by rw[hW];rfl
  rw[←hW]at ho P
  have b9:=R.sets (l:=[.int .i64 (predI ps a.1),.slice wa W.length wc]) rfl
  have sw:=R.stepSets (l:=[.int .i64 (predI ps a.1),.slice wa W.length wc]) rfl
  have hK':=hK _ _ [.int .i64 (predI ps a.1),.slice wa W.length wc] (st.own sw fun j e=>by have e:j=h.size+1:=e;omega) (by rw[hrw,rep_row];exact⟨_,rfl,ho.isSl.mono sw.ge⟩)
  simp(disch:=first|omega|(simp only[zz];try omega;done)) only[↓reduceIte,go_sem,rfRow_L1,e3,e4,e5,e6,A.at,A.2.1,P.at,P.2.1,R.2.1,R.2.2.1,b9.at,b9.2.1]
  exact hK'
def C_alike(vs:List Value)(h:H)(K:Value→H→Prop):Prop:= ∃(u:U) (a b:Row) (la lb:List Value),vs=[.agg la.toArray,.agg lb.toArray]∧Rep.rep u h a la∧Rep.rep u h b lb∧ ∀u' h',Step S0 u h u' h'→K (.bool (decide (a=b))) h'
theorem rfAlike_ok(hC:C_alike vs h K):HCX Tryz.prog 42 vs h K KP:=by
 obtain⟨u,⟨a1,a2⟩,⟨b1,b2⟩,la,lb,rfl,ha,hb,hK⟩:=hC
 rw[rep_row]at ha hb
 obtain⟨va,rfl,ha⟩:=ha
 obtain⟨vb,rfl,hb⟩:=hb
 simp only at ha hb
 obtain⟨aa,ac,rfl,q1,q2⟩:=ha.sl
 obtain⟨ba,bc,rfl,q3,q4⟩:=hb.sl
 have hm:=mlen'
 refine rfAlike_H (fun _ _ _ _ _=>False) (fun _ _ _ _ _ h=>h.elim) _ _ ?_
 have s1:=Step.push0 S0 u h #[.int .i64 a1,.slice aa a2.length ac] 69
 have s2:=Step.push0 S0 (ub u h.size 0) (h.push (.cells #[.int .i64 a1,.slice aa a2.length ac] 69)) #[.int .i64 b1,.slice ba b2.length bc] 69
 have st2:=s1.trans0 s2
 have hK:=hK _ _ st2
 by_cases h1:a1=b1
 ·by_cases h2:a2.length=b2.length
  ·subst h1
   have h2i:(a2.length:Int)=b2.length:=by omega
   simp(disch:=first|omega|(simp only[zz];try omega;done)) only[↓reduceIte,go_sem,rfAlike_S,rfAlike_E,eq_true h2i]
   obtain⟨I,hI⟩: ∃I:Nat→Env→H→Prop,I=fun i σ h'=>σ 2= .pointer (some ⟨h.size,0,none⟩)∧σ 3= .pointer (some ⟨h.size+1,0,none⟩)∧σ 5= .int .i64 i∧i≤a2.length∧a2.take i=b2.take i∧h'=(h.push (.cells #[.int .i64 a1,.slice aa a2.length ac] 69)).push (.cells #[.int .i64 a1,.slice ba b2.length bc] 69):=⟨_,rfl⟩
   refine wpS_loop I (fun i=>a2.length - i) 0 (by rw[hI];exact⟨by simp [upd],by simp [upd],by simp [upd],Nat.zero_le _,by simp,rfl⟩) ?_
   intro i σ h' hy
   rw[hI]at hy
   obtain⟨e2,e3,e5,hi,heq,rfl⟩:=hy
   by_cases hlt:i<a2.length
   ·obtain⟨x,hx⟩: ∃x,a2[i]? =some x:=⟨a2[i],by simp [hlt]⟩
    obtain⟨y,hy⟩: ∃y,b2[i]? =some y:=⟨b2[i],by rw[List.getElem?_eq_getElem (by omega)]⟩
    have hlt2:i<b2.length:=by omega
    obtain⟨pb,po,rfl,hpb,hpu,hpz,hpr⟩:=(ha.mono st2.ge).row i x hx
    obtain⟨qb,qo,rfl,hqb,hqu,hqz,hqr⟩:=(hb.mono st2.ge).row i y hy
    simp only[rep_int,sz_int,hvs_1,List.cons.injEq,and_true]at hpr hpu hpz hqr hqu hqz
    by_cases hxy:x=y
    ·subst hxy
     simp(disch:=first|omega|(simp only[zz];try omega;done)) only[↓reduceIte,go_sem,rfAlike_L1,e2,e3,e5,hlt,hlt2,hpr,hqr]
     refine⟨i+1,?_,by omega⟩
     rw[hI]
     exact⟨by simp [upd,e2],by simp [upd,e3],by simp [upd],hlt,by rw[List.take_add_one,List.take_add_one,hx,hy,heq],rfl⟩
    ·have hne:a2≠b2:=fun e=>by subst e;rw[hx]at hy;exact hxy (Option.some.inj hy)
     rw[decide_eq_false (fun e=>hne (Prod.mk.inj e).2)]at hK
     simp(disch:=first|omega|(simp only[zz];try omega;done)) only[↓reduceIte,go_sem,rfAlike_L1,e2,e3,e5,hlt,hlt2,hpr,hqr,eq_false hxy]
     exact hK
   ·obtain rfl:i=a2.length:=by omega
    rw[List.take_length,h2,List.take_length]at heq
    subst heq
    rw[decide_eq_true rfl]at hK
    simp(disch:=first|omega|(simp only[zz];try omega;done)) only[↓reduceIte,go_sem,rfAlike_L1,e2,e5]
    exact hK
  ·have hne:a2≠b2:=fun e=>h2 (by rw[e])
   have h2i: ¬(a2.length:Int)=b2.length:=by omega
   rw[decide_eq_false (fun e=>hne (Prod.mk.inj e).2)]at hK
   simp(disch:=first|omega|(simp only[zz];try omega;done)) only[↓reduceIte,go_sem,rfAlike_S,rfAlike_E,eq_true h1,eq_false h2i]
   exact hK
 ·rw[decide_eq_false (fun e=>h1 (Prod.mk.inj e).1)]at hK
  simp(disch:=first|omega|(simp only[zz];try omega;done)) only[↓reduceIte,go_sem,rfAlike_S,rfAlike_E,eq_false h1]
  exact hK
def C_joined(vs:List Value)(h:H)(K:Value→H→Prop):Prop:= ∃(u:U) (k:Nat) (v:Value) (L:List Row) (r:Row) (l:List Value),vs=[v,.agg l.toArray]∧Own k u h v L∧k≤h.size∧Rep.rep u h r l∧L.length≤1000000∧ ∀u' h' v',Step (OwnB v) u h u' h'→Own k u' h' v' (joinR L r)→(∀b,OwnB v' b→OwnB v b∨h.size≤b)→K v' h'
def G_rfJoined:Ctr:=fun f vs h K _=>f=42∧C_alike vs h K
theorem G_rfJoined_ok:GOk Tryz.prog G_rfJoined:=by
 rintro f vs h K KP ⟨rfl,hC⟩;exact rfAlike_ok hC
theorem rfJoined_ok(hC:C_joined vs h K):HCX Tryz.prog 16 vs h K KP:=by
 obtain⟨u,k,v,L,r,l,rfl,ho,hkz,hr,hL,hK⟩:=hC
 obtain⟨va,vc,rfl,q1,q2⟩:=ho.sl
 have hrr:=hr
 rw[rep_row]at hr
 obtain⟨rv,rfl,hra⟩:=hr
 obtain⟨ra,rc,rfl,q3,q4⟩:=hra.sl
 have hm:=mlen'
 refine rfJoined_H G_rfJoined G_rfJoined_ok _ _ ?_
 have s1:=Step.push0 S0 u h #[.int .i64 r.1,.slice ra r.2.length rc] 69
 have B1:=Blk.new (u:=u) (h:=h) [.int .i64 r.1,.slice ra r.2.length rc] 69
 simp(disch:=first|omega|(simp only[zz];try omega;done)) only[↓reduceIte,go_sem,rfJoined_S,rfJoined_E]
 obtain⟨I,hI⟩: ∃I:Nat→Env→H→Prop,I=fun i σ h'=>σ 0= .slice va L.length vc∧σ 3= .pointer (some ⟨h.size,0,none⟩)∧σ 5= .int .i64 i∧i≤L.length∧r ∉ L.take i∧ ∃u',Step S0 u h u' h'∧Blk u' h' h.size [.int .i64 r.1,.slice ra r.2.length rc]∧h.size+1≤h'.size:=⟨_,rfl⟩
 refine wpS_loop I (fun i=>L.length - i) 0 (by rw[hI];exact⟨by simp [upd],by simp [upd],by simp [upd],Nat.zero_le _,by simp,_,s1,B1,by simp only[e_psz];omega⟩) ?_
 intro i σ h' hy
 rw[hI]at hy
 obtain⟨e0,e3,e5,hi,hno,u',st,B,hz⟩:=hy
 have bl:=B.1
 have ho':=ho.step0 st
 by_cases hlt:i<L.length
 ·obtain⟨x,hx⟩: ∃x,L[i]? =some x:=⟨L[i],by simp [hlt]⟩
  obtain⟨pb,po,rfl,hpb,hpu,hpz,hpr⟩:=ho'.isSl.row i x hx
  have hprs:=hpr
  rw[rep_row]at hpr
  obtain⟨xv,hpr,hxa⟩:=hpr
  have hcells:=hpr
  obtain⟨xa,xc,rfl,-,-⟩:=hxa.sl
  rw[hcells]at hprs
  simp only[sz_row,hvs_2,List.cons.injEq,and_true]at hpr hpu hpz
  obtain⟨p0,p1⟩:=hpr
  simp(disch:=first|omega|(simp only[zz];try omega;done)) only[↓reduceIte,go_sem,rfJoined_L1,e0,e3,e5,hlt,p0,p1,B.at,B.2.1]
  refine effS_call ⟨rfl,u',x,r,[.int .i64 x.1,.slice xa x.2.length xc],[.int .i64 r.1,.slice ra r.2.length rc],rfl,hprs,Rep.mono st.ge hrr,fun u2 h2 s2=>⟨zz0,?_⟩⟩
  have st2:=st.trans0 s2
  by_cases he:x=r
  ·have hj:joinR L r=L:=by unfold joinR;rw[if_pos (by rw[←he];exact List.mem_of_getElem? hx)]
   simp(disch:=first|omega|(simp only[zz];try omega;done)) only[↓reduceIte,go_sem,eq_true he,decide_true,e0]
   exact hK _ _ _ (st2.mono fun _ _ e=>e.elim) (by rw[hj];exact ho.step0 st2) fun b hb=> .inl hb
  ·simp(disch:=first|omega|(simp only[zz];try omega;done)) only[↓reduceIte,go_sem,eq_false he,decide_false,e5]
   refine⟨i+1,?_,by omega⟩
   rw[hI]
   refine⟨by simp [upd,e0],by simp [upd,e3],by simp [upd],hlt,?_,u2,st2,B.step0 s2,by have:=s2.ge.sz;omega⟩
   rw[List.take_add_one,hx,Option.toList_some,List.mem_append,List.mem_singleton]
   rintro (h|h)
   ·exact hno h
   ·exact he h.symm
 ·obtain rfl:i=L.length:=by omega
  rw[List.take_length]at hno
  have hj:joinR L r=L++[r]:=by unfold joinR;rw[if_neg hno]
  simp(disch:=first|omega|(simp only[zz];try omega;done)) only[↓reduceIte,go_sem,rfJoined_L1,e0,e3,e5,B.at,B.2.1]
  refine effS_app1o (e':=69) (cs:=[.int .i64 r.1,.slice ra r.2.length rc]) rfl ho' (Rep.mono st.ge hrr) rfl rfl (by omega) (by omega) fun a6 n6 c6 u6 h6 o6 s6 w6=>⟨zz0,?_⟩
  simp(disch:=first|omega|(simp only[zz];try omega;done)) only[↓reduceIte,go_sem]
  have hst:Step (OwnB (.slice va L.length vc)) u h _ _:=st.mono fun _ _ e=>e.elim
  exact hK _ _ _ (hst.trans s6 fun j _ e=>e) (by rw[hj];exact o6) fun b hb=>by
   rcases w6 b hb with h|h
   ·exact .inl h
   ·exact .inr (by omega)
end Go.Proofs.YtmjinnbdnpedcaaGreat
