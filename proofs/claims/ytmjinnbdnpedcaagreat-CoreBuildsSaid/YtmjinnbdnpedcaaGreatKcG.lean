/- core: values. -/
import Derived.Test.YtmjinnbdnpedcaaGreatKcF
namespace Go.Proofs.YtmjinnbdnpedcaaGreat
open Go Go.Ev Edict
theorem BSt.putC {k:Nat} {u u1 u2:U} {h h1 h2:H} {b mp mc:Nat} {vP vC vR vF vC':Value} {ps:List Pred} {cs:List Const} {rs:List Rule} {fs:List Row} {x:Const} (B:BSt k u h b mp mc vP vC vR vF ps cs rs fs)
  (s1:Step (fun i=>i=mc) u h u1 h1) (m1:MapG ksC encC h1 mc (posL (cs++[x])) (cs++[x]).length) (o2:Own k u2 h2 vC' (cs++[x])) (s2:Step (OwnB vC) u1 h1 u2 h2) (hb: ∀i,OwnB vC' i→OwnB vC i∨h1.size≤i):
  BSt k u2 (hset h2 b 1 vC') b mp mc vP vC' vR vF ps (cs++[x]) rs fs∧Step (BStB b mp mc vP vC vR vF) u h u2 (hset h2 b 1 vC'):=by
 have D:=B.dis
 simp only[Disj,List.pairwise_cons,List.mem_cons,List.not_mem_nil,or_false,forall_eq_or_imp,forall_eq,List.Pairwise.nil,and_true,false_imp_iff,implies_true]at D
 obtain⟨⟨d1,d2,d3,d4,d5,d6⟩,⟨d7,d8,d9,d10,d11⟩,⟨d12,d13,d14,d15⟩,⟨d16,d17,d18⟩,⟨d19,d20⟩,d21⟩:=D
 have X1:=B.blk.step s1 d2
 have X2:=X1.step s2 d4
 have P1:=B.oP.step s1 (fun i hi e=>d12 (by have e:i=mc:=e;rw[←e];exact hi))
 have P2:=P1.step s2 (fun i hi e=>d16 i hi e)
 have R1:=B.oR.step s1 (fun i hi e=>d14 (by have e:i=mc:=e;rw[←e];exact hi))
 have R2:=R1.step s2 (fun i hi e=>d19 i e hi)
 have F1:=B.oF.step s1 (fun i hi e=>d15 (by have e:i=mc:=e;rw[←e];exact hi))
 have F2:=F1.step s2 (fun i hi e=>d20 i e hi)
 have mC2:=m1.step s2 d13
 have mP1:=B.mP.step s1 (fun e=>d7 (by have e:mp=mc:=e;rw[e]))
 have mP2:=mP1.step s2 d9
 have hbl:=X1.1
 have hmcl:=m1.lt
 have hmpl:=mP1.lt
 have hnew: ∀j,j<h1.size→ ¬OwnB vC j→ ¬OwnB vC' j:=fun j hj hn hv=>(hb j hv).elim hn (fun h=>by omega)
 have sw:Step (fun i=>i=b) u2 h2 u2 (hset h2 b 1 vC'):=Step.set u2 h2 vC' rfl (by rw[X2.2.2.2.1];exact Nat.zero_le _)
 have sall:Step (BStB b mp mc vP vC vR vF) u h u2 (hset h2 b 1 vC'):=((s1.mono (S':=BStB b mp mc vP vC vR vF) (fun i _ e=> .inr (.inr (.inl e)))).trans s2 (fun i _ hi=> .inr (.inr (.inr (.inr (.inl hi)))))).trans sw (fun i _ e=> .inl e)
 have hC'b: ¬OwnB vC' b:=hnew b hbl d4
 have hpl: ∀j,OwnB vP j→ ¬OwnB vC' j:=fun j hj=>hnew j (P1.lt hj) (fun hv=>d16 j hj hv)
 have hrl: ∀j,OwnB vR j→ ¬OwnB vC' j:=fun j hj=>hnew j (R1.lt hj) (fun hv=>d19 j hv hj)
 have hfl: ∀j,OwnB vF j→ ¬OwnB vC' j:=fun j hj=>hnew j (F1.lt hj) (fun hv=>d20 j hv hj)
 refine⟨⟨X2.set (i:=1) (v:=vC') (by simp),own_hset P2 d3 X2.2.2.2.1,own_hset o2 hC'b X2.2.2.2.1,own_hset R2 d5 X2.2.2.2.1,own_hset F2 d6 X2.2.2.2.1,mP2.step sw (fun e=>d1 (by have e:mp=b:=e;rw[e])),mC2.step sw (fun e=>d2 (by have e:mc=b:=e;rw[e])),?_,B.kb,B.kp,B.kc⟩,sall⟩
 simp only[Disj,List.pairwise_cons,List.mem_cons,List.not_mem_nil,or_false,forall_eq_or_imp,forall_eq,List.Pairwise.nil,and_true,false_imp_iff,implies_true]
 exact⟨⟨d1,d2,d3,hC'b,d5,d6⟩,⟨d7,d8,hnew mp hmpl d9,d10,d11⟩,⟨d12,hnew mc hmcl d13,d14,d15⟩,⟨hpl,d17,d18⟩,⟨fun j hv hj=>hrl j hj hv,fun j hv hj=>hfl j hj hv⟩,d21⟩
def C_values(vs:List Value)(h:H)(K:Value→H→Prop):Prop:= ∃(k:Nat) (u:U) (b mp mc:Nat) (v vP vC vR vF:Value) (tl:List Term) (ps:List Pred) (cs:List Const) (rs:List Rule) (fs:List Row),vs=[.pointer (some ⟨b,0,none⟩),v]∧IsSl u h v tl∧BSt k u h b mp mc vP vC vR vF ps cs rs fs∧
 cs.length≤65536∧k≤h.size∧(∀t∈tl,Rep.wf (cnst t))∧
 ∀u' h' vC',Step (BStB b mp mc vP vC vR vF) u h u' h'→BSt k u' h' b mp mc vP vC' vR vF ps (valF cs tl).1 rs fs→(∀i,OwnB vC' i→OwnB vC i∨h.size≤i)→(valF cs tl).1.length≤65536→
  K (.tuple #[.agg (Term.enc ((valF cs tl).2.getD term0)).toArray,.bool (valF cs tl).2.isSome]) h'
theorem valF_cons(cs:List Const)(t:Term)(l:List Term):valF cs (t::l)=if t.1≠4∧cnst t ∉ cs∧65536≤cs.length then(cs,some t)else valF (valT cs t) l:=rfl
def G_crValues:Ctr:=fun f vs h K _=>(f=52∧C_constant vs h K)∨(f=53∧C_numC vs h K)
theorem G_crValues_ok:GOk Tryz.prog G_crValues:=by
 rintro f vs h K KP (⟨rfl,hC⟩|⟨rfl,hC⟩)
 ·exact crConst_ok hC
 ·exact crNumC_ok hC
theorem crValues_ok{vs:List Value}{h:H}{K:Value→H→Prop}{KP:List PanicEntry→H→Prop}(hC:C_values vs h K):HCX Tryz.prog 24 vs h K KP:=by
 obtain⟨k,u,b,mp,mc,v,vP,vC,vR,vF,tl,ps,cs,rs,fs,rfl,hl,B,hlen,hkh,hwf,hK⟩:=hC
 obtain⟨la,lc,rfl,q1,q2⟩:=hl.sl
 have hm:=mlen'
 refine crValues_H G_crValues G_crValues_ok _ _ ?_
 simp(disch:=first|omega|(simp only[zz];try omega;done)) only[↓reduceIte,go_sem,crValues_S,crValues_E]
 have sA:Step S0 u h (ub u h.size 0) (h.push (.cells #[.int .i64 0,.int .i64 0,str [],.int .i64 0] 56)):=Step.push0 S0 u h _ _
 have XA:Blk (ub u h.size 0) (h.push (.cells #[.int .i64 0,.int .i64 0,str [],.int .i64 0] 56)) h.size [.int .i64 0,.int .i64 0,str [],.int .i64 0]:=(Blk.mk (by simp only[e_psz];omega) (by simp(disch:=first|omega|(simp only[zz];try omega;done)) only[go_sem]) (by simp(disch:=first|omega|(simp only[zz];try omega;done)) only[go_sem]) (by repeat (first|(refine ub_at ?_;simp only[];done)|apply ub_zero)) (by simp(disch:=first|omega|(simp only[zz];try omega;done)) only[go_sem]))
 have BA:=B.step sA (fun _ _ h=>h)
 obtain⟨I,hI⟩: ∃I:Nat→Env→H→Prop,I=fun i σ h'=>σ 0= .pointer (some ⟨b,0,none⟩)∧σ 4= .pointer (some ⟨h.size,0,none⟩)∧σ 13= .slice la tl.length lc∧σ 14= .int .i64 tl.length∧σ 15= .int .i64 i∧i≤tl.length∧
  ∃(u':U) (vi:Value) (ci:List Const),Step (BStB b mp mc vP vC vR vF) u h u' h'∧BSt k u' h' b mp mc vP vi vR vF ps ci rs fs∧(∀j,OwnB vi j→OwnB vC j∨h.size≤j)∧ci.length≤65536∧Blk u' h' h.size [.int .i64 0,.int .i64 0,str [],.int .i64 0]∧ ¬OwnB vi h.size∧valF cs tl=valF ci (tl.drop i):=⟨_,rfl⟩
 refine wpS_loop I (fun i=>tl.length - i) 0 (by
  rw[hI]
  exact⟨by simp [upd],by simp [upd],by simp [upd],by simp [upd],by simp [upd],Nat.zero_le _,_,vC,cs,sA.mono (fun _ _ h=>h.elim),BA,fun j hj=> .inl hj,hlen,XA,fun hj=>by have:=B.oC.lt hj;omega,rfl⟩) ?_
 intro i σ h' hy
 rw[hI]at hy
 obtain⟨e0,e4,e13,e14,e15,hi,u',vi,ci,st,B',hvi,hcl,X,hnX,heq⟩:=hy
 have hbh:=B.blk.1
 by_cases hlt:i<tl.length
 ·obtain⟨t,hs⟩: ∃t,tl[i]? =some t:=⟨tl[i],by simp [hlt]⟩
  have hdr:tl.drop i=t::tl.drop (i+1):=by
   obtain⟨hi',rfl⟩:=List.getElem?_eq_some_iff.1 hs
   exact List.drop_eq_getElem_cons hi'
  rw[hdr,valF_cons]at heq
  have hwt:=hwf t (List.mem_of_getElem? hs)
  obtain⟨tb,to,rfl,htb,htu,htz,htr⟩:=(hl.mono st.ge).row i t hs
  rw[rep_term]at htr
  simp only[Term.enc,sz_term,hvs_4,List.cons.injEq,and_true]at htr htu htz
  obtain⟨t0,t1,t2,t3⟩:=htr
  have sp:=Step.push0 S0 u' h' #[.int .i64 t.1,.int .i64 t.2.1,str t.2.2.1,.int .i64 t.2.2.2] 56
  have Y:Blk (ub u' h'.size 0) (h'.push (.cells #[.int .i64 t.1,.int .i64 t.2.1,str t.2.2.1,.int .i64 t.2.2.2] 56)) h'.size [.int .i64 t.1,.int .i64 t.2.1,str t.2.2.1,.int .i64 t.2.2.2]:=(Blk.mk (by simp only[e_psz];omega) (by simp(disch:=first|omega|(simp only[zz];try omega;done)) only[go_sem]) (by simp(disch:=first|omega|(simp only[zz];try omega;done)) only[go_sem]) (by repeat (first|(refine ub_at ?_;simp only[];done)|apply ub_zero)) (by simp(disch:=first|omega|(simp only[zz];try omega;done)) only[go_sem]))
  have Bp:=B'.step sp (fun _ _ h=>h)
  have Xp:=X.step0 sp
  have next: ∀(σ':Env) (u3:U) (h3:H) (vj:Value) (cj:List Const),σ' 0=σ 0→σ' 4=σ 4→σ' 13=σ 13→σ' 14=σ 14→σ' 15= .int .i64 ((i:Int)+1)→Step (BStB b mp mc vP vC vR vF) u h u3 h3→BSt k u3 h3 b mp mc vP vj vR vF ps cj rs fs→(∀j,OwnB vj j→OwnB vC j∨h.size≤j)→cj.length≤65536→
    Blk u3 h3 h.size [.int .i64 0,.int .i64 0,str [],.int .i64 0]→ ¬OwnB vj h.size→valF cs tl=valF cj (tl.drop (i+1))→ ∃y,I y σ' h3∧tl.length - y<tl.length - i:=fun σ' u3 h3 vj cj g0 g4 g13 g14 g15 s3 B3 hb3 l3 X3 n3 q3=>by
   refine⟨i+1,?_,by omega⟩
   rw[hI]
   exact⟨by rw[g0,e0],by rw[g4,e4],by rw[g13,e13],by rw[g14,e14],g15,hlt,u3,vj,cj,s3,B3,hb3,l3,X3,n3,q3⟩
  by_cases hk:t.1=4
  ·have hvt:valT ci t=ci:=by unfold valT;rw[if_pos (.inl hk)]
   rw[if_neg (fun h=>h.1 hk),hvt]at heq
   simp(disch:=first|omega|(simp only[zz];try omega;done)) only[↓reduceIte,go_sem,crValues_L1,e13,e14,e15,hlt,t0,t1,t2,t3,eq_true hk]
   exact next _ _ _ vi ci (by simp [upd]) (by simp [upd]) (by simp [upd]) (by simp [upd]) (by simp [upd]) (st.trans0 sp) Bp hvi hcl Xp hnX heq
  ·simp(disch:=first|omega|(simp only[zz];try omega;done)) only[↓reduceIte,go_sem,crValues_L1,e13,e14,e15,hlt,t0,t1,t2,t3,eq_false hk]
   refine effS_call (.inl ⟨rfl,ub u' h'.size 0,t,rfl,fun u1 h1 s1=>⟨zz0,?_⟩⟩)
   have B1:=Bp.step s1 (fun _ _ h=>h)
   have X1:=Xp.step0 s1
   have Y1:=Y.step0 s1
   have sq:=Step.push0 S0 u1 h1 #[.int .i64 t.1,.int .i64 t.2.1,str t.2.2.1] 60
   have Z:Blk (ub u1 h1.size 0) (h1.push (.cells #[.int .i64 t.1,.int .i64 t.2.1,str t.2.2.1] 60)) h1.size [.int .i64 t.1,.int .i64 t.2.1,str t.2.2.1]:=(Blk.mk (by simp only[e_psz];omega) (by simp(disch:=first|omega|(simp only[zz];try omega;done)) only[go_sem]) (by simp(disch:=first|omega|(simp only[zz];try omega;done)) only[go_sem]) (by repeat (first|(refine ub_at ?_;simp only[];done)|apply ub_zero)) (by simp(disch:=first|omega|(simp only[zz];try omega;done)) only[go_sem]))
   have B2:=B1.step sq (fun _ _ h=>h)
   have X2:=X1.step0 sq
   have Y2:=Y1.step0 sq
   have st2:=((st.trans0 sp).trans0 s1).trans0 sq
   obtain⟨z1,z2,z3,z4,z5,z6,z7,z8,z9⟩:=B1.open
   have hy1:=Y1.1
   have hx1:=X1.1
   simp(disch:=first|omega|(simp only[zz];try omega;done)) only[↓reduceIte,go_sem,e0,z1,z8]
   have hbl:=B1.blk.1
   refine effS_lookg (ks:=ksC) (enc:=encC) (s:=cnst t) encC_inj (keyC hwt) B2.mC ⟨zz0,?_⟩
   by_cases hin:cnst t∈ci
   ·obtain⟨n,hn⟩: ∃n,posL ci (cnst t)=some n:=Option.isSome_iff_exists.1 (posL_some.2 hin)
    have hvt:valT ci t=ci:=by unfold valT;rw[if_pos (.inr hin)]
    rw[if_neg (fun h=>h.2.1 hin),hvt]at heq
    rw[hn]
    simp only[lookV,if_true,Option.isSome_some,Option.getD_some]
    simp(disch:=first|omega|(simp only[zz];try omega;done)) only[↓reduceIte,go_sem,e0,z1,z8,Z.at,Z.2.1]
    refine effS_call (.inr ⟨rfl,ub u1 h1.size 0,mc,ci,cnst t,rfl,B2.mC,by omega,hwt,fun _ u3 h3 s3=>⟨zz0,?_⟩,fun hno=>absurd hin hno⟩)
    simp(disch:=first|omega|(simp only[zz];try omega;done)) only[↓reduceIte,go_sem,e15]
    exact next _ _ _ vi ci (by simp [upd]) (by simp [upd]) (by simp [upd]) (by simp [upd]) (by simp [upd]) (st2.trans0 s3) (B2.step s3 (fun _ _ h=>h)) hvi hcl (X2.step0 s3) hnX heq
   ·have hn:posL ci (cnst t)=none:=by unfold posL;rw[if_neg hin]
    rw[hn]
    simp only[lookV,if_true,Option.isSome_none,Option.getD_none]
    simp(disch:=first|omega|(simp only[zz];try omega;done)) only[↓reduceIte,go_sem,e0,z1,z8]
    have hmc:=B2.mC
    refine effS_lenmg hmc ⟨zz0,?_⟩
    have hx2:=X2.1
    have hy2:=Y2.1
    by_cases h6:65536≤ci.length
    ·rw[if_pos ⟨hk,hin,h6⟩]at heq
     simp(disch:=first|omega|(simp only[zz];try omega;done)) only[↓reduceIte,go_sem,e4,eq_true (show(65536:Int)≤ci.length by omega),Y2.at,Y2.2.1,X2.2.1,X2.2.2.1]
     obtain⟨y0,y1,y2,y3,y4⟩:=set4 (v0:= .int .i64 t.1) (v1:= .int .i64 t.2.1) (v2:=str t.2.2.1) (v3:= .int .i64 t.2.2.2) X1.2.1
     have hXl:h.size<(hsets h1 h.size 0 [.int .i64 t.1,.int .i64 t.2.1,str t.2.2.1,.int .i64 t.2.2.2]).size:=by rw[hsets_size];exact hx1
     rw[e_hszp hXl,e_hvp hXl,e_hvp hXl,e_hvp hXl,e_hvp hXl,y0,y1,y2,y3,y4]
     refine⟨Nat.le_refl _,?_⟩
     have sw:=Step.sets (S:=fun i=>i=h.size) u1 h1 [.int .i64 t.1,.int .i64 t.2.1,str t.2.2.1,.int .i64 t.2.2.2] (b:=h.size) (o:=0) rfl (by rw[X1.2.2.2.1];exact Nat.le_refl _) (by rw[X1.2.1];simp)
     have Bw:=B1.step sw (fun j hj e=>by
      have e:j=h.size:=e
      rcases hj with rfl|rfl|rfl|hj|hj|hj|hj
      ·omega
      ·have:=B.mP.lt;omega
      ·have:=B.mC.lt;omega
      ·have:=B.oP.lt hj;omega
      ·exact hnX (by rw[←e];exact hj)
      ·have:=B.oR.lt hj;omega
      ·have:=B.oF.lt hj;omega)
     have sz:=Step.push0 S0 u1 (hsets h1 h.size 0 [.int .i64 t.1,.int .i64 t.2.1,str t.2.2.1,.int .i64 t.2.2.2]) #[.int .i64 t.1,.int .i64 t.2.1,str t.2.2.1] 60
     have:=hK _ _ vi ((((st.trans0 sp).trans0 s1).trans sw (fun j hj e=>by have e:j=h.size:=e;omega)).trans0 sz) (by rw[heq];exact Bw.step sz (fun _ _ h=>h)) hvi (by rw[heq];exact hcl)
     rw[heq]at this
     exact this
    ·rw[if_neg (fun h=>h6 h.2.2)]at heq
     have hvt:valT ci t=ci++[cnst t]:=by unfold valT;rw[if_neg (fun h=>h.elim hk hin)]
     rw[hvt]at heq
     simp(disch:=first|omega|(simp only[zz];try omega;done)) only[↓reduceIte,go_sem,e0,eq_false (show¬(65536:Int)≤ci.length by omega),z1,z8,Z.at,Z.2.1]
     refine effS_call (.inr ⟨rfl,ub u1 h1.size 0,mc,ci,cnst t,rfl,hmc,by omega,hwt,fun hq=>absurd hq hin,fun _ u3 h3 s3 m3=>⟨zz0,?_⟩⟩)
     have D:=B2.dis
     simp only[Disj,List.pairwise_cons,List.mem_cons,List.not_mem_nil,or_false,forall_eq_or_imp,forall_eq,List.Pairwise.nil,and_true,false_imp_iff,implies_true]at D
     have Y3:=B2.blk.step s3 D.1.2.1
     have hmcl:=B1.mC.lt
     have Z3:=Z.step s3 (fun e=>by have e:h1.size=mc:=e;omega)
     have X3:=X2.step s3 (fun e=>by have e:h.size=mc:=e;have:=B.mC.lt;omega)
     have o3:=B2.oC.step s3 (fun j hj e=>D.2.2.1.2.1 (by have e:j=mc:=e;rw[←e];exact hj))
     have hk3:k≤h3.size:=Nat.le_trans B2.kb (Nat.le_of_lt Y3.1)
     have hyl:=Y3.1
     have hzl:=Z3.1
     simp(disch:=first|omega|(simp only[zz];try omega;done)) only[↓reduceIte,go_sem,e0,Z3.at,Z3.2.1,Y3.at,Y3.2.1]
     refine effS_app1o rfl o3 (x:=cnst t) (cs:=[.int .i64 t.1,.int .i64 t.2.1,str t.2.2.1]) (by rw[rep_const];rfl) rfl rfl hk3 (by omega) fun a n c u4 h4 o4 s4 b4=>⟨zz0,?_⟩
     obtain⟨B4,st4⟩:=B2.putC s3 (by simpa using m3) o4 s4 b4
     have w1:hsz h4 b=6:=by rw[(s4.ge.hs b Y3.1).1];exact Y3.2.1
     have w2:hfr h4 b=(0,0):=by rw[(s4.ge.hs b Y3.1).2];exact Y3.2.2.1
     have hX4: ¬OwnB vi h.size:=hnX
     have X4:=X3.step s4 hX4
     have hz2:=st2.ge.sz
     have hz3:=s3.ge.sz
     have hxb:b≠h.size:=fun e=>by omega
     simp(disch:=first|omega|(simp only[zz];try omega;done)) only[↓reduceIte,go_sem,e0,e15,w1,w2]
     refine next _ _ _ _ (ci++[cnst t]) (by simp [upd]) (by simp [upd]) (by simp [upd]) (by simp [upd]) (by simp [upd]) ?_ B4 (fun j hj=> ?_) (by simp;omega) (X4.step (Step.set (S:=fun i=>i=b) u4 h4 _ rfl (by rw[(Y3.step s4 D.1.2.2.2.1).2.2.2.1];exact Nat.zero_le _)) (fun e=>hxb (by have e:h.size=b:=e;rw[e]))) (fun hj=> ?_) heq
     ·refine st2.trans st4 (fun j hj hB=> ?_)
      rcases hB with hB|hB|hB|hB|hB|hB
      ·exact .inl hB
      ·exact .inr (.inl hB)
      ·exact .inr (.inr (.inl hB))
      ·exact .inr (.inr (.inr (.inl hB)))
      ·exact .inr (.inr (.inr (.inr (.inl ((hvi j hB).elim id (fun h=>by omega))))))
      ·exact .inr (.inr (.inr (.inr (.inr hB))))
     ·rcases b4 j hj with hB|hB
      ·exact hvi j hB
      ·exact .inr (by omega)
     ·rcases b4 _ hj with hB|hB
      ·exact hnX hB
      ·have:=X2.1;omega
 ·obtain rfl:i=tl.length:=by omega
  rw[List.drop_length]at heq
  have heq:valF cs tl=(ci,none):=heq
  simp(disch:=first|omega|(simp only[zz];try omega;done)) only[↓reduceIte,go_sem,crValues_L1,e4,e14,e15,X.2.1,X.2.2.1]
  obtain⟨z0,z1,z2,z3,z4⟩:=set4 (v0:= .int .i64 0) (v1:= .int .i64 0) (v2:=str []) (v3:= .int .i64 0) X.2.1
  rw[z0,z1,z2,z3,z4]
  refine⟨Nat.le_refl _,?_⟩
  have sw:=Step.sets (S:=fun i=>i=h.size) u' h' [.int .i64 0,.int .i64 0,str [],.int .i64 0] (b:=h.size) (o:=0) rfl (by rw[X.2.2.2.1];exact Nat.le_refl _) (by rw[X.2.1];simp)
  have Bw:=B'.step sw (fun j hj e=>by
   have e:j=h.size:=e
   rcases hj with rfl|rfl|rfl|hj|hj|hj|hj
   ·omega
   ·have:=B.mP.lt;omega
   ·have:=B.mC.lt;omega
   ·have:=B.oP.lt hj;omega
   ·exact hnX (by rw[←e];exact hj)
   ·have:=B.oR.lt hj;omega
   ·have:=B.oF.lt hj;omega)
  have:=hK _ _ vi (st.trans sw (fun j hj e=>by have e:j=h.size:=e;omega)) (by rw[heq];exact Bw) hvi (by rw[heq];exact hcl)
  rw[heq]at this
  exact this
end Go.Proofs.YtmjinnbdnpedcaaGreat
