/- The reference's Build: preds, variables. -/
import Derived.Test.YtmjinnbdnpedcaaGreatCbD
import Derived.Test.YtmjinnbdnpedcaaGreatKcE
namespace Edict
theorem arOf_pos{ps:List Pred}{s:Byts}(h:s∈ps.map (·.1)): ∃(i:Nat) (n:Int),predI ps s=i∧ps[i]? =some (s,n)∧arOf ps s=some n∧i<ps.length:=by
 have hi:=List.idxOf_lt_length_of_mem h
 have hg:(ps.map (·.1))[(ps.map (·.1)).idxOf s]? =some s:=by rw[List.getElem?_eq_getElem hi,List.getElem_idxOf hi]
 have hno:s ∉ (ps.map (·.1)).take ((ps.map (·.1)).idxOf s):=by
  intro hm
  have e:ps.map (·.1)=(ps.map (·.1)).take ((ps.map (·.1)).idxOf s)++(ps.map (·.1)).drop ((ps.map (·.1)).idxOf s):=(List.take_append_drop _ _).symm
  have h2:=congrArg (List.idxOf s) e
  rw[List.idxOf_append,if_pos hm]at h2
  have h3:=List.idxOf_lt_length_of_mem hm
  rw[List.length_take]at h3
  omega
 rw[List.getElem?_map]at hg
 cases hx:ps[(ps.map (·.1)).idxOf s]? with
 |none=>rw[hx]at hg;cases hg
 |some x=>
  rw[hx]at hg
  obtain⟨x1,x2⟩:=x
  simp only[Option.map_some,Option.some.injEq]at hg
  subst hg
  exact⟨_,x2,pos_first hno (by rw[List.getElem?_map,hx];rfl),hx,arOf_first hno hx,(List.getElem?_eq_some_iff.1 hx).1⟩
end Edict
namespace Go.Proofs.YtmjinnbdnpedcaaGreat
open Go Go.Ev Edict
variable {vs:List Value} {h:H} {K:Value→H→Prop} {KP:List PanicEntry→H→Prop}
def C_predsR(vs:List Value)(h:H)(K:Value→H→Prop):Prop:= ∃(u:U) (w:Value) (L:List Stood),vs=[.slice none 0 0,w]∧IsSl u h w L∧L.length≤1000000∧
 ∀u' h' w',Step S0 u h u' h'→IsSl u' h' w' (rpF [] L).1→K (.tuple #[w',fV (rpF [] L).2]) h'
def G_rfPreds:Ctr:=fun f vs h K _=>f=35∧C_pred vs h K
theorem G_rfPreds_ok:GOk Tryz.prog G_rfPreds:=by
 rintro f vs h K KP ⟨rfl,hC⟩;exact rfPred_ok hC
theorem rfPreds_ok(hC:C_predsR vs h K):HCX Tryz.prog 9 vs h K KP:=by
 obtain⟨u,w,L,rfl,hl,hL,hK⟩:=hC
 obtain⟨la,lc,rfl,q1,q2⟩:=hl.sl
 have hm:=mlen'
 refine rfPreds_H G_rfPreds G_rfPreds_ok _ _ ?_
 simp(disch:=first|omega|(simp only[zz];try omega;done)) only[↓reduceIte,go_sem,rfPreds_S,rfPreds_E]
 have s1:=Step.push0 S0 u h #[.int .i64 0,.int .i64 0,.int .i64 0] 34
 have B1:=Blk.new (u:=u) (h:=h) [.int .i64 0,.int .i64 0,.int .i64 0] 34
 obtain⟨u1,hu1⟩: ∃u1,u1=ub u h.size 0:=⟨_,rfl⟩
 obtain⟨h1,hh1⟩: ∃h1,h1=h.push (.cells #[.int .i64 0,.int .i64 0,.int .i64 0] 34):=⟨_,rfl⟩
 have hz1:h1.size=h.size+1:=by rw[hh1];simp only[e_psz]
 have B1:Blk u1 h1 h.size [.int .i64 0,.int .i64 0,.int .i64 0]:=by rw[hu1,hh1];exact B1
 rw[←hu1,←hh1]at s1
 rw[←hh1]
 have o1:=own_empty (α:=Pred) (h.size+1) u1 h1 (by omega) 109
 have spA:=Step.push0 S0 u1 h1 #[] 109
 have BA:=B1.step0 spA
 have stA:=s1.trans0 spA
 rw[hz1]at o1 spA stA BA
 refine effS_app (k:=h.size+1) o1 (IsSl.nil (α:=Pred) _ _) rfl rfl (by simp only[e_psz];omega) (by simp only[List.length_nil];omega) fun a n k u3 h3 ho3 s3=>⟨zz0,?_⟩
 have st3:=stA.own s3 fun j hj=>by have:=o1.ge hj;omega
 have B3:=BA.step s3 fun hj=>by have:=o1.ge hj;omega
 have hz3:=s3.ge.sz
 simp only[e_psz]at hz3
 rw[List.append_nil]at ho3
 simp(disch:=first|omega|(simp only[zz];try omega;done)) only[↓reduceIte,go_sem]
 obtain⟨I,hI⟩: ∃I:Nat→Env→H→Prop,I=fun i σ h'=>σ 1= .slice la L.length lc∧σ 5= .pointer (some ⟨h.size,0,none⟩)∧σ 7= .int .i64 i∧i≤L.length∧ ∃u' P,Step S0 u h u' h'∧Blk u' h' h.size [.int .i64 0,.int .i64 0,.int .i64 0]∧h.size+1≤h'.size∧Own (h.size+1) u' h' (σ 6) P∧P.length≤128∧rpF [] L=rpF P (L.drop i):=⟨_,rfl⟩
 refine wpS_loop I (fun i=>L.length - i) 0 (by rw[hI];exact⟨by simp [upd],by simp [upd],by simp [upd],Nat.zero_le _,u3,([]:List Pred),st3,B3,by omega,by simpa [upd]using ho3,Nat.zero_le _,rfl⟩) ?_
 clear st3 B3 hz3 ho3 s3 stA BA spA o1
 intro i σ h' hy
 rw[hI]at hy
 obtain⟨e1,e5,e7,hi,u',P,st,B,hz,ho,hPl,heq⟩:=hy
 by_cases hlt:i<L.length
 ·obtain⟨⟨x,k⟩,hs⟩: ∃x,L[i]? =some x:=⟨L[i],by simp [hlt]⟩
  have hdr:L.drop i=(x,k)::L.drop (i+1):=by
   obtain⟨hi',e⟩:=List.getElem?_eq_some_iff.1 hs
   rw[←e];exact List.drop_eq_getElem_cons hi'
  rw[hdr,rpF_cons]at heq
  obtain⟨pb,po,rfl,hpb,hpu,hpz,hpr⟩:=(hl.mono st.ge).row i (x,k) hs
  rw[rep_stood]at hpr
  obtain⟨va,hpr,hh⟩:=hpr
  obtain⟨ha,hc,rfl,qh1,qh2⟩:=hh.sl
  simp only[sz_stood,hvs_4,List.cons.injEq,and_true]at hpr hpu hpz
  obtain⟨p0,p1,p2,p3⟩:=hpr
  have bl:=B.1
  have spX:=Step.push0 S0 u' h' #[str x.1,.slice ha x.2.1.length hc,.int .i64 x.2.2] 48
  have X:=Blk.new (u:=u') (h:=h') [str x.1,.slice ha x.2.1.length hc,.int .i64 x.2.2] 48
  have stX:=st.trans0 spX
  have BX:=B.step0 spX
  have hoX:=ho.step0 spX
  obtain⟨sa,sc,hσ6,hs1,hs2⟩:=ho.sl
  rw[hσ6]at hoX
  simp(disch:=first|omega|(simp only[zz];try omega;done)) only[↓reduceIte,go_sem,rfPreds_L1,e1,e7,hlt,p0,p1,p2,hσ6]
  refine effS_call ⟨rfl,ub u' h'.size 0,_,P,x.1,rfl,hoX.isSl,by simp(disch:=first|omega|(simp only[zz];try omega;done)) only[go_sem],?_⟩
  obtain⟨hX,hhX⟩: ∃hX,hX=h'.push (.cells #[str x.1,.slice ha x.2.1.length hc,.int .i64 x.2.2] 48):=⟨_,rfl⟩
  have hzX:hX.size=h'.size+1:=by rw[hhX];simp only[e_psz]
  rw[←hhX]at spX stX BX hoX ⊢
  have X:Blk (ub u' h'.size 0) hX h'.size [str x.1,.slice ha x.2.1.length hc,.int .i64 x.2.2]:=by rw[hhX];exact X
  have xl:=X.1
  have bxl:=BX.1
  obtain⟨pb',po',hpe,hpb,hpu,hpz,hpr⟩:=(hl.mono stX.ge).row i (x,k) hs
  simp only[Option.some.injEq,Addr.mk.injEq,and_true]at hpe
  obtain⟨rfl,rfl⟩:=hpe
  rw[rep_stood]at hpr
  obtain⟨va',hpr,hh'⟩:=hpr
  simp only[sz_stood,hvs_4,List.cons.injEq,and_true]at hpr hpu hpz
  obtain⟨g0,g1,g2,g3⟩:=hpr
  by_cases hmem:x.1∈P.map (·.1)
  ·obtain⟨j,m,hj1,hj2,hj3,hj4⟩:=arOf_pos hmem
   rw[hj3]at heq
   simp only at heq
   obtain⟨rb,ro,hre,hrb,hru,hrz,hrr⟩:=hoX.isSl.row j (x.1,m) hj2
   subst hre
   simp only[rep_pred,sz_pred,hvs_2,List.cons.injEq,and_true]at hrr hru hrz
   obtain⟨r0,r1⟩:=hrr
   have hjn: ¬((j:Int)<0):=by omega
   have hjg:(j:Int)≥0:=by omega
   by_cases hm2:m=(x.2.1.length:Int)
   ·rw[if_pos hm2]at heq
    simp(disch:=first|omega|(simp only[zz];try omega;done)) only[↓reduceIte,go_sem,e7,hσ6,hj1,X.at,X.2.1,hj4,r1,hm2]
    refine⟨i+1,?_,by omega⟩
    rw[hI]
    exact⟨by simp [upd,e1],by simp [upd,e5],by simp [upd],hlt,_,P,stX,BX,by omega,by simpa [upd,hσ6]using hoX,hPl,heq⟩
   ·rw[if_neg hm2]at heq
    have b9:=BX.sets (l:=[.int .i64 30,.int .i64 k,.int .i64 x.2.2]) rfl
    have s9:=Step.setsR (l:=[.int .i64 30,.int .i64 k,.int .i64 x.2.2]) (o:=0) stX (.inl (Nat.le_refl _)) (by rw[BX.2.2.2.1];exact Nat.le_refl _) (by rw[BX.2.1];exact Nat.le_refl _)
    have hK':=hK _ _ (.slice none 0 0) s9 (by rw[heq];exact IsSl.nil _ _)
    rw[heq]at hK'
    simp(disch:=first|omega|(simp only[zz];try omega;done)) only[↓reduceIte,go_sem,e1,e5,e7,hσ6,hj1,X.at,X.2.1,hj4,hlt,r1,eq_false hm2,g3,BX.2.1,BX.2.2.1,b9.at,b9.2.1]
    exact hK'
  ·have hpn:predI P x.1= -1:=posI_out hmem
   rw[arOf_none.2 hmem]at heq
   simp only at heq
   by_cases h128:128≤P.length
   ·rw[if_pos h128]at heq
    have hi128:(128:Int)≤P.length:=by omega
    have b9:=BX.sets (l:=[.int .i64 31,.int .i64 k,.int .i64 x.2.2]) rfl
    have s9:=Step.setsR (l:=[.int .i64 31,.int .i64 k,.int .i64 x.2.2]) (o:=0) stX (.inl (Nat.le_refl _)) (by rw[BX.2.2.2.1];exact Nat.le_refl _) (by rw[BX.2.1];exact Nat.le_refl _)
    have hK':=hK _ _ (.slice none 0 0) s9 (by rw[heq];exact IsSl.nil _ _)
    rw[heq]at hK'
    simp(disch:=first|omega|(simp only[zz];try omega;done)) only[↓reduceIte,go_sem,e1,e5,e7,hpn,hσ6,X.at,X.2.1,eq_true hi128,hlt,g3,BX.2.1,BX.2.2.1,b9.at,b9.2.1]
    exact hK'
   ·rw[if_neg h128]at heq
    have hi128: ¬(128:Int)≤P.length:=by omega
    have hx:Rep.rep (ub u' h'.size 0) hX ((x.1,(x.2.1.length:Int)):Pred) [str x.1,.int .i64 x.2.1.length]:=by rw[rep_pred]
    simp(disch:=first|omega|(simp only[zz];try omega;done)) only[↓reduceIte,go_sem,hpn,hσ6,X.at,X.2.1,eq_false hi128]
    refine effS_app1 (e':=109) (cs:=[str x.1,.int .i64 x.2.1.length]) hoX hx rfl rfl (by omega) (by omega) fun a n c9 u9 h9 ho9 s9=>⟨zz0,?_⟩
    have st9:=stX.own s9 fun j hj=>by have:=hoX.ge hj;omega
    have B9:=BX.step s9 fun hj=>by have:=hoX.ge hj;omega
    have hz9:=s9.ge.sz
    simp(disch:=first|omega|(simp only[zz];try omega;done)) only[↓reduceIte,go_sem,e7]
    refine⟨i+1,?_,by omega⟩
    rw[hI]
    exact⟨by simp [upd,e1],by simp [upd,e5],by simp [upd],hlt,u9,P++[(x.1,(x.2.1.length:Int))],st9,B9,by omega,by simpa [upd]using ho9,by rw[List.length_append,List.length_singleton];omega,heq⟩
 ·obtain rfl:i=L.length:=by omega
  rw[List.drop_length]at heq
  have bl:=B.1
  have b9:=B.sets (l:=[.int .i64 0,.int .i64 0,.int .i64 0]) rfl
  have s9:=Step.setsR (l:=[.int .i64 0,.int .i64 0,.int .i64 0]) (o:=0) st (.inl (Nat.le_refl _)) (by rw[B.2.2.2.1];exact Nat.le_refl _) (by rw[B.2.1];exact Nat.le_refl _)
  have sw:=B.stepSets (l:=[.int .i64 0,.int .i64 0,.int .i64 0]) rfl
  have hP:rpF P []=(P,0,0,0):=rfl
  rw[hP]at heq
  have hK':=hK _ _ (σ 6) s9 (by rw[heq];exact ho.isSl.mono sw.ge)
  rw[heq]at hK'
  simp(disch:=first|omega|(simp only[zz];try omega;done)) only[↓reduceIte,go_sem,rfPreds_L1,e1,e5,e7,B.2.1,B.2.2.1,b9.at,b9.2.1]
  exact hK'
def C_varsR(vs:List Value)(h:H)(K:Value→H→Prop):Prop:= ∃(u:U) (v w:Value) (c:Clause),vs=[v,w]∧IsSl u h v c.1.2.1∧IsSl u h w c.2∧Rep.bulk c≤1048576∧(termsC c).length≤136∧(∀x∈c.2,Kind3 x)∧
 ∀u' h',Step S0 u h u' h'→K (.tuple #[fV (boundC c),.bool (decide (boundC c≠(0,0,0)))]) h'
def G_rfVariables:Ctr:=fun f vs h K _=>(f=36∧C_crowdR vs h K)∨(f=37∧C_looseR vs h K)
theorem G_rfVariables_ok:GOk Tryz.prog G_rfVariables:=by
 rintro f vs h K KP (⟨rfl,hC⟩|⟨rfl,hC⟩)
 ·exact rfCrowd_ok hC
 ·exact rfLooseR_ok hC
theorem rfVariables_ok(hC:C_varsR vs h K):HCX Tryz.prog 10 vs h K KP:=by
 obtain⟨u,v,w,c,rfl,hh,hb,hbk,hx1,hx2,hK⟩:=hC
 obtain⟨ha,hc,rfl,q1,q2⟩:=hh.sl
 obtain⟨ba,bc,rfl,q3,q4⟩:=hb.sl
 have hm:=mlen'
 refine rfVariables_H G_rfVariables G_rfVariables_ok _ _ ?_
 simp(disch:=first|omega|(simp only[zz];try omega;done)) only[↓reduceIte,go_sem,rfVariables_S,rfVariables_E]
 have s1:=Step.push0 S0 u h #[.int .i64 0,.int .i64 0,.int .i64 0] 34
 have B1:=Blk.new (u:=u) (h:=h) [.int .i64 0,.int .i64 0,.int .i64 0] 34
 refine effS_call (.inl ⟨rfl,ub u h.size 0,_,_,c,rfl,hh.mono s1.ge,hb.mono s1.ge,hx1,hx2,fun u2 h2 t b s2 hcr=>⟨zz0,?_⟩⟩)
 have st2:=s1.trans0 s2
 have B2:=B1.step0 s2
 have b2l:=B2.1
 have s3:=Step.push0 S0 u2 h2 #[.int .i64 t.1,.int .i64 t.2.1,str t.2.2.1,.int .i64 t.2.2.2] 56
 have X3:=Blk.new (u:=u2) (h:=h2) [.int .i64 t.1,.int .i64 t.2.1,str t.2.2.1,.int .i64 t.2.2.2] 56
 have st3:=st2.trans0 s3
 have B3:=B2.step0 s3
 cases b with
 |true=>
  rw[if_pos rfl]at hcr
  have hbc:boundC c=(32,0,t.2.2.2):=by unfold boundC;rw[hcr]
  have sw:=B2.stepSets (l:=[.int .i64 32,.int .i64 0,.int .i64 t.2.2.2]) rfl
  have b8:=B2.sets (l:=[.int .i64 32,.int .i64 0,.int .i64 t.2.2.2]) rfl
  have sp9:=Step.push0 S0 u2 (hsets h2 h.size 0 [.int .i64 32,.int .i64 0,.int .i64 t.2.2.2]) #[.int .i64 t.1,.int .i64 t.2.1,str t.2.2.1,.int .i64 t.2.2.2] 56
  have b8l:=b8.1
  have hK':=hK _ _ ((st2.own sw fun j e=>by have e:j=h.size:=e;omega).trans0 sp9)
  rw[hbc,decide_eq_true (by simp)]at hK'
  simp(disch:=first|omega|(simp only[zz];try omega;done)) only[↓reduceIte,go_sem,Term.enc,B2.2.1,B2.2.2.1,b8.2.1,b8.at]
  exact hK'
 |false=>
  rw[if_neg (by simp)]at hcr
  simp(disch:=first|omega|(simp only[zz];try omega;done)) only[↓reduceIte,go_sem,Term.enc]
  refine effS_call (.inr ⟨rfl,_,_,_,c,rfl,hh.mono st3.ge,hb.mono st3.ge,hbk,fun u4 h4 t4 b4 s4 hlo=>⟨zz0,?_⟩⟩)
  have X4:=X3.step0 s4
  have B4:=B3.step0 s4
  have st4:=st3.trans0 s4
  have x4l:=X4.1
  have b4l:=B4.1
  have sx:=X4.stepSets (l:=[.int .i64 t4.1,.int .i64 t4.2.1,str t4.2.2.1,.int .i64 t4.2.2.2]) rfl
  have X5:=X4.sets (l:=[.int .i64 t4.1,.int .i64 t4.2.1,str t4.2.2.1,.int .i64 t4.2.2.2]) rfl
  have B5:=B4.step sx fun e=>by have e:h.size=h2.size:=e;omega
  have st5:=st4.own sx fun j e=>by have e:j=h2.size:=e;have:=st2.ge.sz;omega
  obtain⟨h5,hh5⟩: ∃h5,h5=hsets h4 h2.size 0 [.int .i64 t4.1,.int .i64 t4.2.1,str t4.2.2.1,.int .i64 t4.2.2.2]:=⟨_,rfl⟩
  rw[←hh5]at sx X5 B5 st5
  have b5l:=B5.1
  have x5l:=X5.1
  cases b4 with
  |true=>
   rw[if_pos rfl]at hlo
   have hbc:boundC c=(33,0,t4.2.2.2):=by unfold boundC;rw[hcr,hlo]
   have sw:=B5.stepSets (l:=[.int .i64 33,.int .i64 0,.int .i64 t4.2.2.2]) rfl
   have b9:=B5.sets (l:=[.int .i64 33,.int .i64 0,.int .i64 t4.2.2.2]) rfl
   have hK':=hK _ _ (st5.own sw fun j e=>by have e:j=h.size:=e;omega)
   rw[hbc,decide_eq_true (by simp)]at hK'
   simp(disch:=first|omega|(simp only[zz];try omega;done)) only[↓reduceIte,go_sem,Term.enc,X4.2.1,X4.2.2.1,←hh5,X5.at,X5.2.1,B5.2.1,B5.2.2.1,b9.at,b9.2.1]
   exact hK'
  |false=>
   rw[if_neg (by simp)]at hlo
   have hbc:boundC c=(0,0,0):=by unfold boundC;rw[hcr,hlo]
   have sw:=B5.stepSets (l:=[.int .i64 0,.int .i64 0,.int .i64 0]) rfl
   have b9:=B5.sets (l:=[.int .i64 0,.int .i64 0,.int .i64 0]) rfl
   have hK':=hK _ _ (st5.own sw fun j e=>by have e:j=h.size:=e;omega)
   rw[hbc,decide_eq_false (by simp)]at hK'
   simp(disch:=first|omega|(simp only[zz];try omega;done)) only[↓reduceIte,go_sem,Term.enc,X4.2.1,X4.2.2.1,←hh5,B5.2.1,B5.2.2.1,b9.at,b9.2.1]
   exact hK'
end Go.Proofs.YtmjinnbdnpedcaaGreat
