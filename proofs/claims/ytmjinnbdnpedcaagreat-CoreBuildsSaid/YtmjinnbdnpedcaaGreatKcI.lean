/- core: fact. -/
import Derived.Test.YtmjinnbdnpedcaaGreatKcH
namespace Edict
theorem idL_le{κ:Type} [DecidableEq κ](l:List κ)(s:κ):0≤idL l s∧idL l s≤l.length:=by
 unfold idL posL
 split
 ·rename_i h
  have:=List.idxOf_lt_length_of_mem h
  simp only[Option.getD_some];omega
 ·simp
def keyC9(p:Int)(ids:List Int):List Int:=(p::ids)++List.replicate (8 - ids.length) 0
theorem keyC9_set{p x:Int}{ids:List Int}(h:ids.length<8):(keyC9 p ids).set (ids.length+1) x=keyC9 p (ids++[x]):=by
 unfold keyC9
 obtain⟨m,hm⟩: ∃m,8 - ids.length=m+1:=⟨8 - ids.length - 1,by omega⟩
 rw[hm,List.length_append,List.length_singleton,show 8 - (ids.length+1)=m by omega]
 rw[List.cons_append,List.set_cons_succ,List.cons_append,List.set_append_right _ _ (Nat.le_refl _),Nat.sub_self]
 simp [List.replicate_succ]
theorem keyC9_len{p:Int}{ids:List Int}(h:ids.length≤8):(keyC9 p ids).length=9:=by
 unfold keyC9;simp;omega
theorem list9{α:Type}{l:List α}(h:l.length=9): ∃n0 n1 n2 n3 n4 n5 n6 n7 n8,l=[n0,n1,n2,n3,n4,n5,n6,n7,n8]:=by
 match l,h with
 |[n0,n1,n2,n3,n4,n5,n6,n7,n8],_=>exact⟨_,_,_,_,_,_,_,_,_,rfl⟩
end Edict
namespace Go.Proofs.YtmjinnbdnpedcaaGreat
open Go Go.Ev Edict
theorem BSt.putF {k:Nat} {u u2:U} {h h2:H} {b mp mc:Nat} {vP vC vR vF vF':Value} {ps:List Pred} {cs:List Const} {rs:List Rule} {fs fs':List Row} (B:BSt k u h b mp mc vP vC vR vF ps cs rs fs)
  (o2:Own k u2 h2 vF' fs') (s2:Step (OwnB vF) u h u2 h2) (hb: ∀i,OwnB vF' i→OwnB vF i∨h.size≤i):
  BSt k u2 (hset h2 b 3 vF') b mp mc vP vC vR vF' ps cs rs fs'∧Step (BStB b mp mc vP vC vR vF) u h u2 (hset h2 b 3 vF'):=by
 have D:=B.dis
 simp only[Disj,List.pairwise_cons,List.mem_cons,List.not_mem_nil,or_false,forall_eq_or_imp,forall_eq,List.Pairwise.nil,and_true,false_imp_iff,implies_true]at D
 obtain⟨⟨d1,d2,d3,d4,d5,d6⟩,⟨d7,d8,d9,d10,d11⟩,⟨d12,d13,d14,d15⟩,⟨d16,d17,d18⟩,⟨d19,d20⟩,d21⟩:=D
 have X2:=B.blk.step s2 d6
 have P2:=B.oP.step s2 (fun i hi e=>d18 i hi e)
 have C2:=B.oC.step s2 (fun i hi e=>d20 i hi e)
 have R2:=B.oR.step s2 (fun i hi e=>d21 i hi e)
 have mP2:=B.mP.step s2 d11
 have mC2:=B.mC.step s2 d15
 have hnew: ∀j,j<h.size→ ¬OwnB vF j→ ¬OwnB vF' j:=fun j hj hn hv=>(hb j hv).elim hn (fun h=>by omega)
 have sw:Step (fun i=>i=b) u2 h2 u2 (hset h2 b 3 vF'):=Step.set u2 h2 vF' rfl (by rw[X2.2.2.2.1];exact Nat.zero_le _)
 have sall:Step (BStB b mp mc vP vC vR vF) u h u2 (hset h2 b 3 vF'):=(s2.mono (S':=BStB b mp mc vP vC vR vF) (fun i _ hi=> .inr (.inr (.inr (.inr (.inr (.inr hi))))))).trans sw (fun i _ e=> .inl e)
 have hF'b: ¬OwnB vF' b:=hnew b B.blk.1 d6
 have hpl: ∀j,OwnB vP j→ ¬OwnB vF' j:=fun j hj=>hnew j (B.oP.lt hj) (fun hv=>d18 j hj hv)
 have hcl: ∀j,OwnB vC j→ ¬OwnB vF' j:=fun j hj=>hnew j (B.oC.lt hj) (fun hv=>d20 j hj hv)
 have hrl: ∀j,OwnB vR j→ ¬OwnB vF' j:=fun j hj=>hnew j (B.oR.lt hj) (fun hv=>d21 j hj hv)
 refine⟨⟨X2.set (i:=3) (v:=vF') (by simp),own_hset P2 d3 X2.2.2.2.1,own_hset C2 d4 X2.2.2.2.1,own_hset R2 d5 X2.2.2.2.1,own_hset o2 hF'b X2.2.2.2.1,mP2.step sw (fun e=>d1 (by have e:mp=b:=e;rw[e])),mC2.step sw (fun e=>d2 (by have e:mc=b:=e;rw[e])),?_,B.kb,B.kp,B.kc⟩,sall⟩
 simp only[Disj,List.pairwise_cons,List.mem_cons,List.not_mem_nil,or_false,forall_eq_or_imp,forall_eq,List.Pairwise.nil,and_true,false_imp_iff,implies_true]
 exact⟨⟨d1,d2,d3,d4,d5,hF'b⟩,⟨d7,d8,d9,d10,hnew mp B.mP.lt d11⟩,⟨d12,d13,d14,hnew mc B.mC.lt d15⟩,⟨d16,d17,hpl⟩,⟨d19,hcl⟩,hrl⟩
def C_factB(vs:List Value)(h:H)(K:Value→H→Prop):Prop:= ∃(k:Nat) (u:U) (b mp mc ms:Nat) (vP vC vR vF:Value) (l:List Value) (a:Atom) (ps:List Pred) (cs:List Const) (rs:List Rule) (fs:List Row),
 vs=[.pointer (some ⟨b,0,none⟩),.map (some ms),.agg l.toArray]∧Rep.rep u h a l∧BSt k u h b mp mc vP vC vR vF ps cs rs fs∧MapG ksK encK h ms (posL (fs.map key9)) fs.length∧ ¬BStB b mp mc vP vC vR vF ms∧a.2.1.length≤8∧
 (∀t∈a.2.1,Rep.wf (cnst t))∧ps.length≤1048576∧cs.length≤65536∧fs.length≤1048576∧k≤h.size∧
 ∀u' h' vF',Step (fun i=>i=ms∨BStB b mp mc vP vC vR vF i) u h u' h'→BSt k u' h' b mp mc vP vC vR vF' ps cs rs (factT fs (rowF ps cs a))→MapG ksK encK h' ms (posL ((factT fs (rowF ps cs a)).map key9)) (factT fs (rowF ps cs a)).length→
  (∀i,OwnB vF' i→OwnB vF i∨h.size≤i)→K (.tuple #[]) h'
def G_crFactB:Ctr:=fun f vs h K _=>(f=52∧C_constant vs h K)∨(f=55∧C_numK vs h K)
theorem G_crFactB_ok:GOk Tryz.prog G_crFactB:=by
 rintro f vs h K KP (⟨rfl,hC⟩|⟨rfl,hC⟩)
 ·exact crConst_ok hC
 ·exact crNumK_ok hC
theorem crFactB_ok{vs:List Value}{h:H}{K:Value→H→Prop}{KP:List PanicEntry→H→Prop}(hC:C_factB vs h K):HCX Tryz.prog 26 vs h K KP:=by
 obtain⟨k,u,b,mp,mc,ms,vP,vC,vR,vF,l,a,ps,cs,rs,fs,rfl,hr,B,hM,hms,h8,hwf,hpl,hcl,hfl,hkh,hK⟩:=hC
 rw[rep_atom]at hr
 obtain⟨av,rfl,hav⟩:=hr
 obtain⟨aa,ac,rfl,q1,q2⟩:=hav.sl
 have hm:=mlen'
 refine crFactB_H G_crFactB G_crFactB_ok _ _ _ ?_
 obtain⟨z1,z2,z3,z4,z5,z6,z7,z8,z9⟩:=B.open
 simp(disch:=first|omega|(simp only[zz];try omega;done)) only[↓reduceIte,go_sem,crFactB_S,crFactB_E]
 have s0:=Step.push0 S0 u h #[str a.1,.slice aa a.2.1.length ac,.int .i64 a.2.2] 48
 have B0:=B.step s0 (fun _ _ h=>h)
 have X0:Blk (ub u h.size 0) (h.push (.cells #[str a.1,.slice aa a.2.1.length ac,.int .i64 a.2.2] 48)) h.size [str a.1,.slice aa a.2.1.length ac,.int .i64 a.2.2]:=(Blk.mk (by simp only[e_psz];omega) (by simp(disch:=first|omega|(simp only[zz];try omega;done)) only[go_sem]) (by simp(disch:=first|omega|(simp only[zz];try omega;done)) only[go_sem]) (by repeat (first|(refine ub_at ?_;simp only[];done)|apply ub_zero)) (by simp(disch:=first|omega|(simp only[zz];try omega;done)) only[go_sem]))
 have M0:=hM.step s0 (fun h=>h)
 have hpid:(posL (ps.map (·.1)) a.1).getD 0=pids ps a.1:=rfl
 obtain⟨σ0,hσ0⟩: ∃σ0,σ0=upd (upd (upd (upd env0 0 (.pointer (some ⟨b,0,none⟩))) 1 (.map (some ms))) 2 (.agg #[str a.1,.slice aa a.2.1.length ac,.int .i64 a.2.2])) 5 (.pointer (some ⟨h.size,0,none⟩)):=⟨_,rfl⟩
 have g0:σ0 0= .pointer (some ⟨b,0,none⟩):=by rw[hσ0];simp [upd]
 have g1:σ0 1= .map (some ms):=by rw[hσ0];simp [upd]
 have g5:σ0 5= .pointer (some ⟨h.size,0,none⟩):=by rw[hσ0];simp [upd]
 rw[←hσ0]
 clear hσ0
 obtain⟨h0,hh0⟩: ∃h0,h0=h.push (.cells #[str a.1,.slice aa a.2.1.length ac,.int .i64 a.2.2] 48):=⟨_,rfl⟩
 obtain⟨u0,hu0⟩: ∃u0,u0=ub u h.size 0:=⟨_,rfl⟩
 rw[←hh0,←hu0]at s0 B0 X0
 rw[←hh0]at M0
 rw[←hh0]
 have hh1:h0.size=h.size+1:=by rw[hh0];simp only[e_psz]
 clear hh0 hu0
 obtain⟨z1,z2,z3,z4,z5,z6,z7,z8,z9⟩:=B0.open
 have hx0:=X0.1
 refine w_join (fun σ' h2=>keepE σ0 σ' [0,1,5]∧ ∃u2,Step S0 u0 h0 u2 h2∧σ' 6= .pointer (some ⟨h0.size,0,none⟩)∧Blk u2 h2 h0.size [.int .i64 (pids ps a.1),.slice none 0 0]) ?_ ?_
 ·simp(disch:=first|omega|(simp only[zz];try omega;done)) only[↓reduceIte,go_sem,w_both,g0,g1,g5,z1,z7,X0.at,X0.2.1]
  refine⟨effS_look B0.mP ⟨zz0,?_⟩,effS_look (B0.mP.step (Step.push0 S0 u0 h0 _ _) (fun h=>h)) ⟨zz0,?_⟩⟩
  ·rw[hpid]
   simp only[lookV,Bool.false_eq_true,if_false]
   simp(disch:=first|omega|(simp only[zz];try omega;done)) only[↓reduceIte,go_sem,g0,g1,g5]
   exact⟨_,Step.push0 S0 u0 h0 _ _,(Blk.mk (by simp only[e_psz];omega) (by simp(disch:=first|omega|(simp only[zz];try omega;done)) only[go_sem]) (by simp(disch:=first|omega|(simp only[zz];try omega;done)) only[go_sem]) (by repeat (first|(refine ub_at ?_;simp only[];done)|apply ub_zero)) (by simp(disch:=first|omega|(simp only[zz];try omega;done)) only[go_sem]))⟩
  ·rw[hpid]
   simp only[lookV,Bool.false_eq_true,if_false]
   simp(disch:=first|omega|(simp only[zz];try omega;done)) only[↓reduceIte,go_sem,g0,g1,g5]
   exact⟨_,Step.push0 S0 u0 h0 _ _,(Blk.mk (by simp only[e_psz];omega) (by simp(disch:=first|omega|(simp only[zz];try omega;done)) only[go_sem]) (by simp(disch:=first|omega|(simp only[zz];try omega;done)) only[go_sem]) (by repeat (first|(refine ub_at ?_;simp only[];done)|apply ub_zero)) (by simp(disch:=first|omega|(simp only[zz];try omega;done)) only[go_sem]))⟩
 ·rintro σ h2 ⟨hkE,u2,s2,e6,R⟩
  simp(disch:=first|omega|(simp only[zz];try omega;done)) only[go_sem,g0,g1,g5]at hkE
  obtain⟨k0,k1,k5⟩:=hkE
  have B2:=B0.step s2 (fun _ _ h=>h)
  have X2:=X0.step0 s2
  have M2:=M0.step s2 (fun h=>h)
  have hx2:=X2.1
  have hr2:=R.1
  simp(disch:=first|omega|(simp only[zz];try omega;done)) only[↓reduceIte,go_sem,k5,e6,R.at,R.2.1,X2.at,X2.2.1]
  obtain⟨pid,hp0⟩: ∃pid,pid=pids ps a.1:=⟨_,rfl⟩
  rw[←hp0]at R
  rw[←hp0]
  have hpb:=idL_le (ps.map (·.1)) a.1
  rw[List.length_map,show idL (ps.map (·.1)) a.1=pid from hp0.symm]at hpb
  obtain⟨f,hf⟩: ∃f:Term→Int,f=fun t=>idL cs (cnst t):=⟨_,rfl⟩
  have hz2:=s2.ge.sz
  have s3:=Step.push0 S0 u2 h2 #[.int .i64 pid,.int .i64 0,.int .i64 0,.int .i64 0,.int .i64 0,.int .i64 0,.int .i64 0,.int .i64 0,.int .i64 0] 134
  have KB0:Blk (ub u2 h2.size 0) (h2.push (.cells #[.int .i64 pid,.int .i64 0,.int .i64 0,.int .i64 0,.int .i64 0,.int .i64 0,.int .i64 0,.int .i64 0,.int .i64 0] 134)) h2.size [.int .i64 pid,.int .i64 0,.int .i64 0,.int .i64 0,.int .i64 0,.int .i64 0,.int .i64 0,.int .i64 0,.int .i64 0]:=(Blk.mk (by simp only[e_psz];omega) (by simp(disch:=first|omega|(simp only[zz];try omega;done)) only[go_sem]) (by simp(disch:=first|omega|(simp only[zz];try omega;done)) only[go_sem]) (by repeat (first|(refine ub_at ?_;simp only[];done)|apply ub_zero)) (by simp(disch:=first|omega|(simp only[zz];try omega;done)) only[go_sem]))
  have R3:=R.step0 s3
  have st3:=(s0.trans0 s2).trans0 s3
  obtain⟨pk,hpk⟩: ∃pk,pk=h2.size:=⟨_,rfl⟩
  obtain⟨pr,hpr⟩: ∃pr,pr=h0.size:=⟨_,rfl⟩
  have KB:Blk (ub u2 h2.size 0) (h2.push (.cells #[.int .i64 pid,.int .i64 0,.int .i64 0,.int .i64 0,.int .i64 0,.int .i64 0,.int .i64 0,.int .i64 0,.int .i64 0] 134)) pk ((keyC9 pid ((a.2.1.take 0).map f)).map (Value.int .i64)):=by rw[hpk];exact KB0
  rw[←hpk]
  clear KB0
  rw[←hpr]at R3 e6
  obtain⟨I,hI⟩: ∃I:Nat→Env→H→Prop,I=fun i σ h'=>σ 0= .pointer (some ⟨b,0,none⟩)∧σ 1= .map (some ms)∧σ 6= .pointer (some ⟨pr,0,none⟩)∧σ 7= .pointer (some ⟨pk,0,none⟩)∧σ 25= .slice aa a.2.1.length ac∧σ 26= .int .i64 a.2.1.length∧σ 27= .int .i64 i∧i≤a.2.1.length∧
   ∃(u':U) (vA:Value),Step S0 u h u' h'∧Own h.size u' h' vA ((a.2.1.take i).map f)∧Blk u' h' pr [.int .i64 pid,vA]∧Blk u' h' pk ((keyC9 pid ((a.2.1.take i).map f)).map (Value.int .i64))∧ ¬OwnB vA pr∧ ¬OwnB vA pk:=⟨_,rfl⟩
  refine wpS_loop I (fun i=>a.2.1.length - i) 0 (by
   rw[hI]
   exact⟨by simp [upd,k0],by simp [upd,k1],by simp [upd,e6],by simp [upd],by simp [upd],by simp [upd],by simp [upd],Nat.zero_le _,_,_,st3,.nil _ _ _,R3,KB,ownb_none,ownb_none⟩) ?_
  have hpr1:h.size≤pr∧h.size≤pk∧pr≠pk:=by omega
  clear KB R3 R M2 X2 B2 hx2 hr2 s3 st3 k0 k1 k5 e6 hpk hpr hz2 hh1 hx0 s2 M0 B0 X0 z1 z2 z3 z4 z5 z6 z7 z8 z9 s0
  have hlen9: ∀i,(keyC9 pid ((a.2.1.take i).map f)).length=9:=fun i=>keyC9_len (by rw[List.length_map,List.length_take];omega)
  intro i σ h' hy
  rw[hI]at hy
  obtain⟨e0,e1,e6,e7,e25,e26,e27,hi,u',vA,st,ho,R,KB,nR,nK⟩:=hy
  have B':=B.step st (fun _ _ h=>h)
  have M':=hM.step st (fun h=>h)
  obtain⟨z1,z2,z3,z4,z5,z6,z7,z8,z9⟩:=B'.open
  have hrl:=R.1
  have hkl:=KB.1
  have hkz:hsz h' pk=9:=by rw[KB.2.1,List.length_map,hlen9]
  by_cases hlt:i<a.2.1.length
  ·obtain⟨t,hs⟩: ∃t,a.2.1[i]? =some t:=⟨a.2.1[i],by simp [hlt]⟩
   have hwt:=hwf t (List.mem_of_getElem? hs)
   have hsn:(a.2.1.take (i+1)).map f=(a.2.1.take i).map f++[idL cs (cnst t)]:=by
    rw[List.take_add_one,hs,Option.toList_some,List.map_append,hf];rfl
   obtain⟨tb,to,rfl,htb,htu,htz,htr⟩:=(hav.mono st.ge).row i t hs
   rw[rep_term]at htr
   simp only[Term.enc,sz_term,hvs_4,List.cons.injEq,and_true]at htr htu htz
   obtain⟨t0,t1,t2,t3⟩:=htr
   have sp:=Step.push0 S0 u' h' #[.int .i64 t.1,.int .i64 t.2.1,str t.2.2.1,.int .i64 t.2.2.2] 56
   have Bp:=B'.step sp (fun _ _ h=>h)
   simp(disch:=first|omega|(simp only[zz];try omega;done)) only[↓reduceIte,go_sem,crFactB_L1,e0,e25,e26,e27,hlt,t0,t1,t2,t3,z1,z8]
   refine effS_call (.inl ⟨rfl,ub u' h'.size 0,t,rfl,fun u1 h1 s1=> ?_⟩)
   have B1:=Bp.step s1 (fun _ _ h=>h)
   obtain⟨w1,w2,w3,w4,w5,w6,w7,w8,w9⟩:=B1.open
   refine⟨by simp(disch:=first|omega|(simp only[zz];try omega;done)) only[↓reduceIte,go_sem,e0,z8,w1,w8],?_⟩
   have o1:=(ho.step0 sp).step0 s1
   have R1:=(R.step0 sp).step0 s1
   have K1:=(KB.step0 sp).step0 s1
   have st1:=(st.trans0 sp).trans0 s1
   have hrl1:=R1.1
   simp(disch:=first|omega|(simp only[zz];try omega;done)) only[↓reduceIte,go_sem]
   refine effS_lookg (ks:=ksC) (enc:=encC) (s:=cnst t) encC_inj (keyC hwt) B1.mC ⟨zz0,?_⟩
   have hid:(posL cs (cnst t)).getD 0=idL cs (cnst t):=rfl
   rw[hid]
   simp only[lookV,Bool.false_eq_true,if_false]
   have hv0:=R1.at 1 (by simp)
   simp only[List.getD_eq_getElem?_getD,List.getElem?_cons_succ,List.getElem?_cons_zero,Option.getD_some]at hv0
   simp(disch:=first|omega|(simp only[zz];try omega;done)) only[↓reduceIte,go_sem,e6,R1.2.1,hv0]
   refine effS_app1o rfl o1 (x:=idL cs (cnst t)) (cs:=[.int .i64 (idL cs (cnst t))]) (by rw[rep_int]) rfl rfl st1.ge.sz (by rw[List.length_map,List.length_take];omega) fun a' n' c' u3 h3 o3 s3 b3=>⟨zz0,?_⟩
   have R3:=R1.step s3 nR
   have K3:=K1.step s3 nK
   have hr3:=R3.1
   have hk3:=K3.1
   have hkz3:hsz h3 pk=9:=by rw[K3.2.1,List.length_map,hlen9]
   have nR3: ¬OwnB (.slice a' n' c') pr:=fun hj=>(b3 _ hj).elim nR (fun h=>by omega)
   have nK3: ¬OwnB (.slice a' n' c') pk:=fun hj=>(b3 _ hj).elim nK (fun h=>by have:=K1.1;omega)
   have hofr:hfr h3 pk=(0,0):=K3.2.2.1
   simp(disch:=first|omega|(simp only[zz];try omega;done)) only[↓reduceIte,go_sem,e6,e7,e27,R3.2.1,R3.2.2.1,hkz3,hofr]
   refine⟨by omega,by omega,by omega,Nat.zero_le _,i+1,?_,by omega⟩
   have sw1:Step (fun j=>j=pr) u3 h3 u3 (hset h3 pr 1 (.slice a' n' c')):=Step.set u3 h3 _ rfl (by rw[R3.2.2.2.1];exact Nat.zero_le _)
   have R4:=R3.set (i:=1) (v:= .slice a' n' c') (by simp)
   have K4:=K3.step sw1 (fun e=>hpr1.2.2 (by have e:pk=pr:=e;exact e.symm))
   have o4:=o3.step sw1 (fun j hj e=>nR3 (by have e:j=pr:=e;rw[←e];exact hj))
   have sw2:Step (fun j=>j=pk) u3 (hset h3 pr 1 (.slice a' n' c')) u3 (hset (hset h3 pr 1 (.slice a' n' c')) pk ((i+1)*1) (.int .i64 (idL cs (cnst t)))):=Step.set u3 _ _ rfl (by rw[K4.2.2.2.1];exact Nat.zero_le _)
   have R5:=R4.step sw2 (fun e=>hpr1.2.2 (by have e:pr=pk:=e;exact e))
   have K5:=K4.set (i:=(i+1)*1) (v:= .int .i64 (idL cs (cnst t))) (by rw[List.length_map,hlen9];omega)
   have o5:=o4.step sw2 (fun j hj e=>nK3 (by have e:j=pk:=e;rw[←e];exact hj))
   have st5:=(((st1.trans s3 (fun j hj hB=>by have:=ho.ge hB;omega)).trans sw1 (fun j hj e=>by have e:j=pr:=e;omega)).trans sw2 (fun j hj e=>by have e:j=pk:=e;omega))
   have hil:((a.2.1.take i).map f).length=i:=by rw[List.length_map,List.length_take];omega
   have hks:=keyC9_set (p:=pid) (x:=idL cs (cnst t)) (ids:=(a.2.1.take i).map f) (by omega)
   rw[hil,←hsn]at hks
   rw[←List.map_set,Nat.mul_one,hks]at K5
   rw[hI]
   exact⟨by simp [upd,e0],by simp [upd,e1],by simp [upd,e6],by simp [upd,e7],by simp [upd,e25],by simp [upd,e26],by simp [upd],hlt,u3,_,st5,by rw[hsn];exact o5,R5,by rw[Nat.mul_one];exact K5,nR3,nK3⟩
  ·obtain rfl:i=a.2.1.length:=by omega
   have h9:=hlen9 a.2.1.length
   rw[List.take_length]at ho KB h9
   have hrow:rowF ps cs a=(pid,a.2.1.map f):=by unfold rowF;rw[hp0,hf]
   have hkey:key9 (rowF ps cs a)=keyC9 pid (a.2.1.map f):=by rw[hrow];rfl
   have hwk: ∀x∈keyC9 pid (a.2.1.map f),Rep.wf x:=by
    intro x hx
    have:0≤x∧x≤1048576:=by
     unfold keyC9 at hx
     rcases List.mem_append.1 hx with hx|hx
     ·rcases List.mem_cons.1 hx with rfl|hx
      ·omega
      ·obtain⟨t,-,rfl⟩:=List.mem_map.1 hx
       rw[hf]
       have:=idL_le cs (cnst t)
       simp only;omega
     ·have:=(List.mem_replicate.1 hx).2
      omega
    show -9223372036854775808≤x∧x≤9223372036854775807
    omega
   obtain⟨n0,n1,n2,n3,n4,n5,n6,n7,n8,hk9⟩:=list9 h9
   rw[hk9]at KB h9 hwk hkey
   simp only[List.map_cons,List.map_nil]at KB
   simp(disch:=first|omega|(simp only[zz];try omega;done)) only[↓reduceIte,go_sem,crFactB_L1,e1,e7,e26,e27,KB.at,KB.2.1]
   refine effS_call (.inr ⟨rfl,u',ms,fs.map key9,[n0,n1,n2,n3,n4,n5,n6,n7,n8],rfl,by rw[List.length_map];exact M',by rw[List.length_map];omega,h9,hwk,fun hin u3 h3 s3=>⟨zz0,?_⟩,fun hin u3 h3 s3 m3=>⟨zz0,?_⟩⟩)
   ·have hft:factT fs (rowF ps cs a)=fs:=by unfold factT;rw[hkey,if_pos hin]
    simp(disch:=first|omega|(simp only[zz];try omega;done)) only[↓reduceIte,go_sem]
    have st3:=st.trans0 s3
    exact hK _ _ vF (st3.mono fun _ _ h=>h.elim) (by rw[hft];exact B.step st3 (fun _ _ h=>h)) (by rw[hft];exact hM.step st3 (fun h=>h)) (fun j hj=> .inl hj)
   ·have hft:factT fs (rowF ps cs a)=fs++[rowF ps cs a]:=by unfold factT;rw[hkey,if_neg hin]
    have B3:=B'.step s3 (fun j hj e=>hms (by have e:j=ms:=e;rw[←e];exact hj))
    have hmsl:=hM.lt
    have R3:=R.step s3 (fun e=>by have e:pr=ms:=e;omega)
    have o3:=ho.step s3 (fun j hj e=>by have e:j=ms:=e;have:=ho.ge hj;omega)
    obtain⟨w1,w2,w3,w4,w5,w6,w7,w8,w9⟩:=B3.open
    have hr3:=R3.1
    obtain⟨va,vc,hvs,-,-⟩:=ho.sl
    subst hvs
    simp(disch:=first|omega|(simp only[zz];try omega;done)) only[↓reduceIte,go_sem,e0,e6,w1,w6,R3.at,R3.2.1]
    have hX3:=B3.blk
    have st3:Step (fun i=>i=ms∨BStB b mp mc vP vC vR vF i) u h u3 h3:=(st.mono (fun _ _ h=>h.elim)).trans s3 (fun j _ e=> .inl e)
    refine effS_app1o rfl B3.oF (x:=rowF ps cs a) (cs:=[.int .i64 pid,.slice va (a.2.1.map f).length vc]) (by rw[rep_row,hrow];exact⟨_,rfl,o3.isSl⟩) rfl rfl (Nat.le_trans hkh st3.ge.sz) (by omega) fun a4 n4 c4 u4 h4 o4 s4 b4=>⟨zz0,?_⟩
    obtain⟨B4,st4⟩:=B3.putF o4 s4 b4
    have hb4: ¬OwnB vF b:=by
     have D:=B3.dis
     simp only[Disj,List.pairwise_cons,List.mem_cons,List.not_mem_nil,or_false,forall_eq_or_imp,forall_eq,List.Pairwise.nil,and_true,false_imp_iff,implies_true]at D
     exact D.1.2.2.2.2.2
    have X4:=hX3.step s4 hb4
    have y1:hsz h4 b=6:=X4.2.1
    have y2:hfr h4 b=(0,0):=X4.2.2.1
    simp(disch:=first|omega|(simp only[zz];try omega;done)) only[↓reduceIte,go_sem,e0,y1,y2]
    have hm4:=m3.step st4 hms
    refine hK _ _ _ (st3.trans st4 fun j _ hj=> .inr hj) (by rw[hft];exact B4) (by rw[hft,List.map_append,List.map_cons,List.map_nil,hkey,List.length_append,List.length_singleton];simpa using hm4) fun j hj=>(b4 j hj).imp id fun h=>by have:=st3.ge.sz;omega
end Go.Proofs.YtmjinnbdnpedcaaGreat
