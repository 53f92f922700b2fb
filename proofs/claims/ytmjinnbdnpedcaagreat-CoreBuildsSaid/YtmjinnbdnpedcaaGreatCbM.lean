/- The reference's Build: the body of a rule. -/
import Derived.Test.YtmjinnbdnpedcaaGreatCbL
namespace Edict
theorem posR_snoc(ps:List Pred)(cs:List Const): ∀(l:List Literal) (V:Strs) (x:Literal),posR ps cs V (l++[x])=posR ps cs V l++if x.1=1 then [(predI ps x.2.1.1,slotsR cs (l.foldl varL V) x.2.1.2.1)]else []
 |[],V,x=>by
  rw[List.nil_append,posR,posR]
  simp only[List.foldl_nil,List.nil_append,posR]
 |y::l,V,x=>by
  rw[List.cons_append,posR,posR,List.foldl_cons]
  by_cases h:y.1=1
  ·rw[if_pos h,if_pos h,posR_snoc ps cs l,List.cons_append]
  ·have:varL V y=V:=by unfold varL;rw[if_neg h]
   rw[if_neg h,if_neg h,posR_snoc ps cs l,this]
theorem posR_len(ps:List Pred)(cs:List Const): ∀(l:List Literal) (V:Strs),(posR ps cs V l).length≤l.length
 |[],_=>Nat.le_refl _
 |x::l,V=>by
  rw[posR,List.length_cons]
  split
  ·have:=posR_len ps cs l (varL V x);simp only[List.length_cons];omega
  ·have:=posR_len ps cs l V;omega
theorem fmap_snoc{α β:Type}{p:α→Bool}{f:α→β}{l:List α}{i:Nat}{x:α}(h:l[i]? =some x):((l.take (i+1)).filter p).map f=((l.take i).filter p).map f++if p x then [f x]else []:=by
 rw[filt_snoc h,List.map_append];congr 1;cases p x<;>rfl
end Edict
namespace Go.Ev
open Go Edict
end Go.Ev
namespace Go.Proofs.YtmjinnbdnpedcaaGreat
open Go Go.Ev Edict
theorem FrB.n{u:U}{h:H}{f:Nat}{ps:List Pred}{cs:List Const}(k:FrB u h f ps cs):FrN h.size u h f ps cs:=by
 obtain⟨vps,b,h1,h2,h3⟩:=k.ex
 obtain⟨_,_,_,_,hb,-⟩:=h3.ex
 exact⟨vps,b,h1.1,hb.1,h1,h2,h3⟩
theorem FrN.mono{n m:Nat}{u:U}{h:H}{f:Nat}{ps:List Pred}{cs:List Const}(k:FrN n u h f ps cs)(hm:n≤m):FrN m u h f ps cs:=by
 obtain⟨vps,b,l1,l2,h1⟩:=k.ex
 exact⟨vps,b,by omega,by omega,h1⟩
def bodyR(ps:List Pred)(cs:List Const)(ls:List Literal):Rule:=(((0,[]):Pattern),posR ps cs [] ls,testsR cs (varsF ls) ls,negsR ps cs (varsF ls) ls,varsF ls,0)
def C_bodyR(vs:List Value)(h:H)(K:Value→H→Prop):Prop:= ∃(u:U) (f:Nat) (ps:List Pred) (cs:List Const) (v:Value) (ls:List Literal),vs=[.pointer (some ⟨f,0,none⟩),v]∧FrB u h f ps cs∧IsSl u h v ls∧ls.length≤16∧(∀x∈ls,Kind3 x∧x.2.1.2.1.length≤8∧ ∀t∈termsL x,t.1≠4→cnst t∈cs)∧ ∀u' h' l',Step S0 u h u' h'→Rep.rep u' h' (bodyR ps cs ls) l'→K (.agg l'.toArray) h'
def G_rfBody:Ctr:=fun f vs h K _=>(f=43∧C_positive vs h K)∨(f=18∧C_pattern vs h K)∨(f=44∧C_slot vs h K)
theorem G_rfBody_ok:GOk Tryz.prog G_rfBody:=by
 rintro f vs h K KP (⟨rfl,hC⟩|⟨rfl,hC⟩|⟨rfl,hC⟩)
 ·exact rfPositive_ok hC
 ·exact rfPattern_ok hC
 ·exact rfSlot_ok hC
theorem vars_few{ls:List Literal}(h: ∀x∈ls,x.2.1.2.1.length≤8)(hl:ls.length≤16):tot ls≤128:=by
 have: ∀l:List Literal,(∀x∈l,x.2.1.2.1.length≤8)→tot l≤8*l.length:=by
  intro l
  induction l with
  |nil=>intro _;simp [tot]
  |cons x l ih=>
   intro hx
   have h1:=ih fun y hy=>hx y (List.mem_cons_of_mem _ hy)
   have h2:argN x≤8:=hx x (List.mem_cons_self ..)
   simp only[tot,List.map_cons,List.sum_cons,List.length_cons]at h1 ⊢
   omega
 have:=this ls h
 omega
theorem rfBody_ok{vs:List Value}{h:H}{K:Value→H→Prop}{KP:List PanicEntry→H→Prop}(hC:C_bodyR vs h K):HCX Tryz.prog 17 vs h K KP:=by
 obtain⟨u,f,ps,cs,v,ls,rfl,hF,hl,h16,hx,hK⟩:=hC
 obtain⟨la,lc,rfl,q1,q2⟩:=hl.sl
 have hm:=mlen'
 have hFn:=hF.n
 have htot:=vars_few (fun x hm=>(hx x hm).2.1) h16
 refine rfBody_H G_rfBody G_rfBody_ok _ _ ?_
 have s1:=Step.push0 S0 u h #[.int .i64 0,.slice none 0 0,.slice none 0 0,.slice none 0 0,.slice none 0 0,.slice none 0 0,.int .i64 0] 79
 have B1:=Blk.new (u:=u) (h:=h) [.int .i64 0,.slice none 0 0,.slice none 0 0,.slice none 0 0,.slice none 0 0,.slice none 0 0,.int .i64 0] 79
 have s2:=Step.push0 S0 (ub u h.size 0) (h.push (.cells #[.int .i64 0,.slice none 0 0,.slice none 0 0,.slice none 0 0,.slice none 0 0,.slice none 0 0,.int .i64 0] 79)) #[.int .i64 0,.slice none 0 0,.slice none 0 0,.slice none 0 0,.slice none 0 0,.slice none 0 0,.int .i64 0] 79
 have B2:=Blk.new (u:=ub u h.size 0) (h:=h.push (.cells #[.int .i64 0,.slice none 0 0,.slice none 0 0,.slice none 0 0,.slice none 0 0,.slice none 0 0,.int .i64 0] 79)) [.int .i64 0,.slice none 0 0,.slice none 0 0,.slice none 0 0,.slice none 0 0,.slice none 0 0,.int .i64 0] 79
 have B1:=B1.step0 s2
 have st2:=s1.trans0 s2
 simp(disch:=first|omega|(simp only[zz];try omega;done)) only[↓reduceIte,go_sem,rfBody_S,rfBody_E]
 obtain⟨I,hI⟩: ∃I:Nat→Env→H→Prop,I=fun i σ h'=>σ 0= .pointer (some ⟨f,0,none⟩)∧σ 1= .slice la ls.length lc∧σ 4= .pointer (some ⟨h.size,0,none⟩)∧σ 5= .pointer (some ⟨h.size+1,0,none⟩)∧σ 7= .int .i64 i∧i≤ls.length∧
  ∃u' w,Step S0 u h u' h'∧h.size+2≤h'.size∧Blk u' h' h.size [.int .i64 0,.slice none 0 0,.slice none 0 0,.slice none 0 0,.slice none 0 0,.slice none 0 0,.int .i64 0]∧Blk u' h' (h.size+1) [.int .i64 0,.slice none 0 0,w,.slice none 0 0,.slice none 0 0,.slice none 0 0,.int .i64 0]∧Own (h.size+2) u' h' w (posR ps cs [] (ls.take i))∧Own (h.size+2) u' h' (σ 6) (varsF (ls.take i))∧ ∀j,OwnB w j→ ¬OwnB (σ 6) j:=⟨_,rfl⟩
 refine wpS_loop I (fun i=>ls.length - i) 0 (by
  rw[hI]
  exact⟨by simp [upd],by simp [upd],by simp [upd],by simp [upd],by simp [upd],Nat.zero_le _,_,_,st2,by simp only[e_psz];omega,B1,by simpa only[e_psz]using B2,.nil _ _ _,by simp only[upd];exact .nil _ _ _,fun j hj=>by obtain⟨_,_,_,e⟩:=hj;cases e⟩) ?_
 clear s1 s2 B1 B2 st2
 intro i σ h' hy
 rw[hI]at hy
 obtain⟨e0,e1,e4,e5,e7,hi,u',w,st,hz,A,R,ho,hv,hdis⟩:=hy
 have al:=A.1
 have rl:=R.1
 have hV:=varsL_len (ls.take i) []
 have hVt:tot (ls.take i)≤tot ls:=by
  have e:tot ls=tot (ls.take i)+tot (ls.drop i):=by unfold tot;rw[←List.sum_append_nat,←List.map_append,List.take_append_drop]
  omega
 have hVl:(varsF (ls.take i)).length≤128:=by unfold varsF;simp only[List.length_nil]at hV;omega
 have hPl:=posR_len ps cs (ls.take i) []
 rw[List.length_take]at hPl
 obtain⟨wa,wc,rfl,-,-⟩:=ho.sl
 obtain⟨sa,sc,hσ6,-,-⟩:=hv.sl
 rw[hσ6]at hv hdis
 by_cases hlt:i<ls.length
 ·obtain⟨x,hs⟩: ∃x,ls[i]? =some x:=⟨ls[i],by simp [hlt]⟩
  obtain⟨hk3,h8,hcx⟩:=hx x (List.mem_of_getElem? hs)
  obtain⟨pb,po,rfl,hpb,hpu,hpz,hpr⟩:=(hl.mono st.ge).row i x hs
  rw[rep_literal]at hpr
  obtain⟨pv,hpr,hpv⟩:=hpr
  obtain⟨pva,pvc,rfl,r1,r2⟩:=hpv.sl
  simp only[Term.enc,sz_literal,hvs_14,List.cons_append,List.nil_append,List.cons.injEq,and_true]at hpr hpu hpz
  obtain⟨p0,p1,p2,p3,-⟩:=hpr
  have htk:ls.take (i+1)=ls.take i++[x]:=by rw[List.take_add_one,hs];rfl
  have hPn:=posR_snoc ps cs (ls.take i) [] x
  have hVn:varsF (ls.take (i+1))=varL (varsF (ls.take i)) x:=fold_snoc hs
  rw[←htk]at hPn
  have hvF:(ls.take i).foldl varL []=varsF (ls.take i):=rfl
  rw[hvF]at hPn
  obtain⟨Vi,hVi⟩: ∃Vi,Vi=varsF (ls.take i):=⟨_,rfl⟩
  obtain⟨Pi,hPi⟩: ∃Pi,Pi=posR ps cs [] (ls.take i):=⟨_,rfl⟩
  rw[←hVi]at hv hPn hVn hVl hdis hσ6
  rw[←hPi]at ho hPn hPl R hdis
  by_cases hk:x.1=1
  ·have hvl:varL Vi x=x.2.1.2.1.foldl varT Vi:=by unfold varL;rw[if_pos hk]
   rw[hvl]at hVn
   rw[if_pos hk]at hPn
   have hat:termsL x=x.2.1.2.1:=by unfold termsL;rw[if_pos (.inl hk)];rfl
   rw[hat]at hcx
   have sX:=Step.push0 S0 u' h' #[.int .i64 0,.slice none 0 0] 74
   have X1:=Blk.new (u:=u') (h:=h') [.int .i64 0,.slice none 0 0] 74
   have stX:=st.trans0 sX
   have hvX:=hv.step0 sX
   simp(disch:=first|omega|(simp only[zz];try omega;done)) only[↓reduceIte,go_sem,rfBody_L1,e0,e1,hσ6,e7,hlt,p0,p1,p2,p3,eq_true hk]
   refine effS_call (.inl ⟨rfl,ub u' h'.size 0,h.size+2,f,ps,cs,x.2.1,[str x.2.1.1,.slice pva x.2.1.2.1.length pvc,.int .i64 x.2.1.2.2],_,Vi,rfl,by rw[rep_atom];exact⟨_,rfl,hpv.mono sX.ge⟩,(hFn.mono (by omega)).step0 stX,hvX,by simp only[e_psz];omega,by omega,by omega,hcx,fun u4 h4 l4 v4 s4 hr4 ho4 hb4=>⟨zz0,?_⟩⟩)
   obtain⟨W4,hW4⟩: ∃W4,W4=slotsR cs Vi x.2.1.2.1:=⟨_,rfl⟩
   obtain⟨V4,hV4⟩: ∃V4,V4=x.2.1.2.1.foldl varT Vi:=⟨_,rfl⟩
   rw[←hW4]at hPn hr4
   rw[←hV4]at ho4 hVn
   have hrp:=hr4
   rw[rep_pattern]at hr4
   obtain⟨zv,rfl,hz4⟩:=hr4
   obtain⟨za,zc,rfl,-,-⟩:=hz4.sl
   have nv: ∀j,h'.size=j→ ¬OwnB (.slice sa Vi.length sc) j:=fun j e hj=>by have:=hv.lt hj;omega
   have nl: ∀j,j<h.size+2→ ¬OwnB (.slice sa Vi.length sc) j:=fun j e hj=>by have:=hv.ge hj;omega
   have st4:=stX.own s4 fun j hj=>by have:=hv.ge hj;omega
   have A4:=(A.step0 sX).step s4 (nl _ (by omega))
   have R4:=(R.step0 sX).step s4 (nl _ (by omega))
   have X4:=X1.step s4 (nv _ rfl)
   have w4:=(ho.step0 sX).step s4 fun b hb hb2=>hdis b hb hb2
   have hz4':=s4.ge.sz
   simp only[e_psz]at hz4'
   have x4l:=X4.1
   have r4l:=R4.1
   -- p
   have sw:=X4.stepSets (l:=[.int .i64 (predI ps x.2.1.1),.slice za W4.length zc]) rfl
   have X5:=X4.sets (l:=[.int .i64 (predI ps x.2.1.1),.slice za W4.length zc]) rfl
   have nX: ∀j,j<h.size+2→ ¬j=h'.size:=fun j e1 e2=>by omega
   have A5:=A4.step sw (nX _ (by omega))
   have R5:=R4.step sw (nX _ (by omega))
   have w5:=w4.step sw fun b hb e=>by have e:b=h'.size:=e;have:=ho.lt hb;omega
   have v5:=ho4.step sw fun b hb e=>by
    have e:b=h'.size:=e
    rcases hb4 b hb with h|h
    ·exact nv b e.symm h
    ·simp only[e_psz]at h;omega
   have st5:=st4.own sw fun j e=>by have e:j=h'.size:=e;omega
   obtain⟨h5,hh5⟩: ∃h5,h5=hsets h4 h'.size 0 [.int .i64 (predI ps x.2.1.1),.slice za W4.length zc]:=⟨_,rfl⟩
   have hz5:=sw.ge.sz
   rw[←hh5]at sw X5 A5 R5 w5 v5 st5 hz5
   have x5l:=X5.1
   have r5l:=R5.1
   have hr5:=Rep.mono sw.ge hrp
   simp(disch:=first|omega|(simp only[zz];try omega;done)) only[↓reduceIte,go_sem,e5,X4.2.1,X4.2.2.1,←hh5,X5.at,X5.2.1,R5.at,R5.2.1]
   refine effS_app1o (e':=74) (cs:=[.int .i64 (predI ps x.2.1.1),.slice za W4.length zc]) rfl w5 hr5 rfl rfl (by omega) (by omega) fun a6 n6 c6 u6 h6 o6 s6 w6=>⟨zz0,?_⟩
   have n6': ∀j,j<h.size+2→ ¬OwnB (.slice wa Pi.length wc) j:=fun j e hj=>by have:=ho.ge hj;omega
   have A6:=A5.step s6 (n6' _ (by omega))
   have R6:=R5.step s6 (n6' _ (by omega))
   have d5: ∀b,OwnB v4 b→ ¬OwnB (.slice wa Pi.length wc) b:=fun b hb hb2=>by
    rcases hb4 b hb with h|h
    ·exact hdis b hb2 h
    ·have:=ho.lt hb2;simp only[e_psz]at h;omega
   have v6:=v5.step s6 d5
   have st6:=st5.own s6 fun j hj=>by have:=ho.ge hj;omega
   have hz6:=s6.ge.sz
   obtain⟨xa6,xc6,hx6,-,-⟩:=o6.sl
   cases hx6
   obtain⟨P6,hP6⟩: ∃P6,P6=Pi++[(predI ps x.2.1.1,W4)]:=⟨_,rfl⟩
   have hPl6:Pi.length+1=P6.length:=by rw[hP6,List.length_append];rfl
   have d6: ∀b,OwnB (.slice a6 P6.length c6) b→ ¬OwnB v4 b:=fun b hb hb2=>by
    rcases w6 b (by rw[←hP6];exact hb)with h|h
    ·exact d5 b hb2 h
    ·have:=v5.lt hb2;omega
   rw[←hP6]at o6 hPn ⊢
   have sv:=R6.stepSet (i:=2) (v:= .slice a6 P6.length c6)
   have R7:Blk u6 (hset h6 (h.size+1) 2 (.slice a6 P6.length c6)) (h.size+1) [.int .i64 0,.slice none 0 0,.slice a6 P6.length c6,.slice none 0 0,.slice none 0 0,.slice none 0 0,.int .i64 0]:=R6.set (i:=2) (v:= .slice a6 P6.length c6) (by simp)
   have A7:=A6.step sv fun e=>by have e:h.size=h.size+1:=e;omega
   have o7:=o6.step sv fun b hb e=>by have e:b=h.size+1:=e;have:=o6.ge hb;omega
   have v7:=v6.step sv fun b hb e=>by have e:b=h.size+1:=e;have:=v6.ge hb;omega
   have st7:=st6.own sv fun j e=>by have e:j=h.size+1:=e;omega
   have hz7:=sv.ge.sz
   have r6l:=R6.1
   simp(disch:=first|omega|(simp only[zz];try omega;done)) only[↓reduceIte,go_sem,e5,e7,R6.2.1,R6.2.2.1]
   refine⟨i+1,?_,by omega⟩
   rw[hI]
   exact⟨by simp [upd,e0],by simp [upd,e1],by simp [upd,e4],by simp [upd,e5],by simp [upd],hlt,u6,.slice a6 P6.length c6,st7,by omega,A7,R7,by rw[hPn];exact o7,by rw[hVn];simpa [upd]using v7,fun j hj hj2=>d6 j hj (by simpa [upd]using hj2)⟩
  ·have hvl:varL Vi x=Vi:=by unfold varL;rw[if_neg hk]
   rw[hvl]at hVn
   rw[if_neg hk,List.append_nil]at hPn
   simp(disch:=first|omega|(simp only[zz];try omega;done)) only[↓reduceIte,go_sem,rfBody_L1,e1,e7,hlt,p0,eq_false hk]
   refine⟨i+1,?_,by omega⟩
   rw[hI]
   exact⟨by simp [upd,e0],by simp [upd,e1],by simp [upd,e4],by simp [upd,e5],by simp [upd],hlt,u',_,st,hz,A,R,by rw[hPn];exact ho,by rw[hVn];simpa [upd,hσ6]using hv,fun j hj hj2=>hdis j hj (by simpa [upd,hσ6]using hj2)⟩
 ·obtain rfl:i=ls.length:=by omega
  rw[List.take_length]at ho hv R hVl hdis hσ6
  obtain⟨V,hVV⟩: ∃V,V=varsF ls:=⟨_,rfl⟩
  obtain⟨P,hPP⟩: ∃P,P=posR ps cs [] ls:=⟨_,rfl⟩
  have hbr:bodyR ps cs ls=(((0,[]):Pattern),P,testsR cs V ls,negsR ps cs V ls,V,0):=by rw[hPP,hVV];rfl
  rw[←hVV]at hv hVl hdis hσ6
  rw[←hPP]at ho R hdis
  have iP:=ho.isSl
  have iV:=hv.isSl
  have sv:=R.stepSet (i:=5) (v:= .slice sa V.length sc)
  have R1:Blk u' (hset h' (h.size+1) 5 (.slice sa V.length sc)) (h.size+1) [.int .i64 0,.slice none 0 0,.slice wa P.length wc,.slice none 0 0,.slice none 0 0,.slice sa V.length sc,.int .i64 0]:=R.set (i:=5) (v:= .slice sa V.length sc) (by simp)
  have A1:=A.step sv fun e=>by have e:h.size=h.size+1:=e;omega
  have iP1:=iP.mono sv.ge
  have iV1:=iV.mono sv.ge
  have st1:=st.own sv fun j e=>by have e:j=h.size+1:=e;omega
  have hz1:=sv.ge.sz
  simp(disch:=first|omega|(simp only[zz];try omega;done)) only[↓reduceIte,go_sem,rfBody_L1,e1,e5,hσ6,e7,R.2.1,R.2.2.1]
  clear hI I
  obtain⟨J,hJ⟩: ∃J:Nat→Env→H→Prop,J=fun i σ h'=>σ 0= .pointer (some ⟨f,0,none⟩)∧σ 1= .slice la ls.length lc∧σ 4= .pointer (some ⟨h.size,0,none⟩)∧σ 5= .pointer (some ⟨h.size+1,0,none⟩)∧σ 6= .slice sa V.length sc∧σ 9= .int .i64 i∧i≤ls.length∧
   ∃u' t n,Step S0 u h u' h'∧h.size+2≤h'.size∧Blk u' h' h.size [.int .i64 0,.slice none 0 0,.slice none 0 0,.slice none 0 0,.slice none 0 0,.slice none 0 0,.int .i64 0]∧Blk u' h' (h.size+1) [.int .i64 0,.slice none 0 0,.slice wa P.length wc,t,n,.slice sa V.length sc,.int .i64 0]∧Own (h.size+2) u' h' t (testsR cs V (ls.take i))∧Own (h.size+2) u' h' n (negsR ps cs V (ls.take i))∧(∀j,OwnB t j→ ¬OwnB n j)∧IsSl u' h' (.slice wa P.length wc) P∧IsSl u' h' (.slice sa V.length sc) V:=⟨_,rfl⟩
  refine wpS_loop J (fun i=>ls.length - i) 0 (by
   rw[hJ]
   exact⟨by simp [upd,e0],by simp [upd,e1],by simp [upd,e4],by simp [upd,e5],by simp [upd,hσ6],by simp [upd],Nat.zero_le _,u',_,_,st1,by omega,A1,R1,.nil _ _ _,.nil _ _ _,(fun j hj=>by obtain⟨_,_,_,e⟩:=hj;cases e),iP1,iV1⟩) ?_
  clear e0 e1 e4 e5 e7 hσ6 st A R ho hv hdis iP iV sv R1 A1 iP1 iV1 st1 hz1 al rl hz hi hlt hV hVt hPl
  intro i σ h' hy
  rw[hJ]at hy
  obtain⟨e0,e1,e4,e5,e6,e9,hi,u',tv,nv,st,hz,A,R,ot,on,hdis,iP,iV⟩:=hy
  have al:=A.1
  have rl:=R.1
  obtain⟨ta,tc,rfl,-,-⟩:=ot.sl
  obtain⟨na,nc,rfl,-,-⟩:=on.sl
  by_cases hlt:i<ls.length
  ·obtain⟨x,hs⟩: ∃x,ls[i]? =some x:=⟨ls[i],by simp [hlt]⟩
   obtain⟨hk3,h8,hcx⟩:=hx x (List.mem_of_getElem? hs)
   obtain⟨pb,po,rfl,hpb,hpu,hpz,hpr⟩:=(hl.mono st.ge).row i x hs
   rw[rep_literal]at hpr
   obtain⟨pv,hpr,hpv⟩:=hpr
   obtain⟨pva,pvc,rfl,r1,r2⟩:=hpv.sl
   simp only[Term.enc,sz_literal,hvs_14,List.cons_append,List.nil_append,List.cons.injEq,and_true]at hpr hpu hpz
   obtain⟨p0,p1,p2,p3,p4,p5,p6,p7,p8,p9,p10,p11,p12,p13⟩:=hpr
   have hTn:testsR cs V (ls.take (i+1))=testsR cs V (ls.take i)++if decide (x.1=3)then [testR cs V x]else []:=fmap_snoc hs
   have hNn:negsR ps cs V (ls.take (i+1))=negsR ps cs V (ls.take i)++if decide (x.1=2)then [patR ps cs V x.2.1]else []:=fmap_snoc hs
   have hTl:(testsR cs V (ls.take i)).length≤16:=by
    unfold testsR;rw[List.length_map]
    refine Nat.le_trans (List.length_filter_le _ _) ?_
    rw[List.length_take];omega
   have hNl:(negsR ps cs V (ls.take i)).length≤16:=by
    unfold negsR;rw[List.length_map]
    refine Nat.le_trans (List.length_filter_le _ _) ?_
    rw[List.length_take];omega
   obtain⟨Ti,hTi⟩: ∃Ti,Ti=testsR cs V (ls.take i):=⟨_,rfl⟩
   obtain⟨Ni,hNi⟩: ∃Ni,Ni=negsR ps cs V (ls.take i):=⟨_,rfl⟩
   rw[←hTi]at ot hTn hTl R hdis
   rw[←hNi]at on hNn hNl R hdis
   by_cases hk2:x.1=2
   ·have hn3: ¬x.1=3:=by omega
    rw[decide_eq_false hn3,if_neg (by simp),List.append_nil]at hTn
    rw[decide_eq_true hk2,if_pos rfl]at hNn
    have hat:termsL x=x.2.1.2.1:=by unfold termsL;rw[if_pos (.inr hk2)];rfl
    rw[hat]at hcx
    simp(disch:=first|omega|(simp only[zz];try omega;done)) only[↓reduceIte,go_sem,rfBody_L2,e0,e1,e6,e9,hlt,p0,p1,p2,p3,eq_true hk2]
    refine effS_call (.inr (.inl ⟨rfl,u',f,ps,cs,x.2.1,[str x.2.1.1,.slice pva x.2.1.2.1.length pvc,.int .i64 x.2.1.2.2],_,V,rfl,by rw[rep_atom];exact⟨_,rfl,hpv⟩,hF.step0 st,iV,by omega,hcx,fun u4 h4 l4 s4 hr4=>⟨zz0,?_⟩⟩))
    obtain⟨Q4,hQ4⟩: ∃Q4,Q4=patR ps cs V x.2.1:=⟨_,rfl⟩
    rw[←hQ4]at hr4 hNn
    have hrp:=hr4
    rw[rep_pattern]at hr4
    obtain⟨zv,rfl,hz4⟩:=hr4
    obtain⟨za,zc,rfl,-,-⟩:=hz4.sl
    have sX:=Step.push0 S0 u4 h4 #[.int .i64 Q4.1,.slice za Q4.2.length zc] 74
    have sX4:=s4.trans0 sX
    have st5:=st.trans0 sX4
    have A5:=A.step0 sX4
    have R5:=R.step0 sX4
    have R4:=R.step0 s4
    have t5:=ot.step0 sX4
    have n5:=on.step0 sX4
    have hr5:=Rep.mono sX.ge hrp
    have hz5:=s4.ge.sz
    have r4l:=R4.1
    simp(disch:=first|omega|(simp only[zz];try omega;done)) only[↓reduceIte,go_sem,e5,R4.at,R4.2.1]
    refine effS_app1o (e':=74) (cs:=[.int .i64 Q4.1,.slice za Q4.2.length zc]) (by simp only[e_psz]) n5 hr5 rfl rfl (by simp only[e_psz];omega) (by omega) fun a6 n6 c6 u6 h6 o6 s6 w6=>⟨zz0,?_⟩
    have nn: ∀j,j<h.size+2→ ¬OwnB (.slice na Ni.length nc) j:=fun j e hj=>by have:=on.ge hj;omega
    have A6:=A5.step s6 (nn _ (by omega))
    have R6:=R5.step s6 (nn _ (by omega))
    have t6:=t5.step s6 fun b hb hb2=>hdis b hb hb2
    have st6:=st5.own s6 fun j hj=>by have:=on.ge hj;omega
    have hz6:=s6.ge.sz
    simp only[e_psz]at hz6
    obtain⟨xa6,xc6,hx6,-,-⟩:=o6.sl
    cases hx6
    obtain⟨N6,hN6⟩: ∃N6,N6=Ni++[Q4]:=⟨_,rfl⟩
    have hNl6:Ni.length+1=N6.length:=by rw[hN6,List.length_append];rfl
    have d6: ∀b,OwnB (.slice ta Ti.length tc) b→ ¬OwnB (.slice a6 N6.length c6) b:=fun b hb hb2=>by
     rcases w6 b (by rw[←hN6];exact hb2)with h|h
     ·exact hdis b hb h
     ·have:=ot.lt hb;simp only[e_psz]at h;omega
    rw[←hN6]at o6 hNn ⊢
    have sv:=R6.stepSet (i:=4) (v:= .slice a6 N6.length c6)
    have R7:Blk u6 (hset h6 (h.size+1) 4 (.slice a6 N6.length c6)) (h.size+1) [.int .i64 0,.slice none 0 0,.slice wa P.length wc,.slice ta Ti.length tc,.slice a6 N6.length c6,.slice sa V.length sc,.int .i64 0]:=R6.set (i:=4) (v:= .slice a6 N6.length c6) (by simp)
    have A7:=A6.step sv fun e=>by have e:h.size=h.size+1:=e;omega
    have o7:=o6.step sv fun b hb e=>by have e:b=h.size+1:=e;have:=o6.ge hb;omega
    have t7:=t6.step sv fun b hb e=>by have e:b=h.size+1:=e;have:=t6.ge hb;omega
    have st7:=st6.own sv fun j e=>by have e:j=h.size+1:=e;omega
    have hz7:=sv.ge.sz
    have r6l:=R6.1
    have g7:=(((sX4.ge).trans s6.ge).trans sv.ge)
    simp(disch:=first|omega|(simp only[zz];try omega;done)) only[↓reduceIte,go_sem,e0,e1,e5,e6,e9,R6.2.1,R6.2.2.1]
    obtain⟨h7,hh7⟩: ∃h7,h7=hset h6 (h.size+1) 4 (.slice a6 N6.length c6):=⟨_,rfl⟩
    rw[←hh7]at R7 A7 o7 t7 st7 hz7 g7
    obtain⟨pb',po',hpe,hpb',hpu',hpz',hpr'⟩:=(hl.mono st7.ge).row i x hs
    simp only[Option.some.injEq,Addr.mk.injEq,and_true]at hpe
    obtain⟨rfl,rfl⟩:=hpe
    rw[rep_literal]at hpr'
    obtain⟨pv',hpr',hpv'⟩:=hpr'
    simp only[Term.enc,sz_literal,hvs_14,List.cons_append,List.nil_append,List.cons.injEq,and_true]at hpr' hpu' hpz'
    obtain⟨y0,-⟩:=hpr'
    have hzz:hsz h7 pb=hsz h6 pb:=by rw[hh7];exact e_hszs
    have hpz6:=hpz'
    rw[hzz]at hpz6
    simp(disch:=first|omega|(simp only[zz];try omega;done)) only[go_sem,←hh7,hlt,y0,eq_false hn3]
    refine⟨i+1,?_,by omega⟩
    rw[hJ]
    exact⟨by simp [upd,e0],by simp [upd,e1],by simp [upd,e4],by simp [upd,e5],by simp [upd,e6],by simp [upd],hlt,u6,_,_,st7,by omega,A7,R7,by rw[hTn];exact t7,by rw[hNn];exact o7,d6,iP.mono g7,iV.mono g7⟩
   ·by_cases hk:x.1=3
    ·rw[decide_eq_true hk,if_pos rfl]at hTn
     rw[decide_eq_false hk2,if_neg (by simp),List.append_nil]at hNn
     have hat:termsL x=[x.2.2.2.1,x.2.2.2.2.1]:=by unfold termsL;rw[if_neg (by omega),if_pos hk]
     rw[hat]at hcx
     simp(disch:=first|omega|(simp only[zz];try omega;done)) only[↓reduceIte,go_sem,rfBody_L2,e0,e1,e6,e9,hlt,p0,p5,p6,p7,p8,eq_false hk2,eq_true hk]
     refine effS_call (.inr (.inr ⟨rfl,u',f,ps,cs,x.2.2.2.1,_,V,rfl,hF.step0 st,iV,hcx _ (by simp),fun u4 h4 s4=>⟨zz0,?_⟩⟩))
     obtain⟨S1,hS1⟩: ∃S1,S1=slotR cs V x.2.2.2.1:=⟨_,rfl⟩
     rw[←hS1]
     have hse:(Slot.enc S1).toArray= #[.bool S1.1,.int .i64 S1.2]:=rfl
     rw[hse]
     have sX:=Step.push0 S0 u4 h4 #[.bool S1.1,.int .i64 S1.2] 123
     have X5:=Blk.new (u:=u4) (h:=h4) [.bool S1.1,.int .i64 S1.2] 123
     have sX4:=s4.trans0 sX
     have st5:=st.trans0 sX4
     have hz5:=s4.ge.sz
     obtain⟨h5,hh5⟩: ∃h5,h5=h4.push (.cells #[.bool S1.1,.int .i64 S1.2] 123):=⟨_,rfl⟩
     have hsz5:h5.size=h4.size+1:=by rw[hh5];simp only[e_psz]
     obtain⟨u5,hu5⟩: ∃u5,u5=ub u4 h4.size 0:=⟨_,rfl⟩
     rw[←hh5,←hu5]at sX sX4 st5
     have X5:Blk u5 h5 h4.size [.bool S1.1,.int .i64 S1.2]:=by rw[hu5,hh5];exact X5
     obtain⟨pb',po',hpe,hpb',hpu',hpz',hpr'⟩:=(hl.mono st5.ge).row i x hs
     simp only[Option.some.injEq,Addr.mk.injEq,and_true]at hpe
     obtain⟨rfl,rfl⟩:=hpe
     rw[rep_literal]at hpr'
     obtain⟨pv',hpr',hpv'⟩:=hpr'
     simp only[Term.enc,sz_literal,hvs_14,List.cons_append,List.nil_append,List.cons.injEq,and_true]at hpr' hpu' hpz'
     obtain⟨y0,y1,y2,y3,y4,y5,y6,y7,y8,y9,y10,y11,y12,y13⟩:=hpr'
     simp(disch:=first|omega|(simp only[zz];try omega;done)) only[↓reduceIte,go_sem,←hh5,e0,e1,e6,e9,hlt,y9,y10,y11,y12]
     refine effS_call (.inr (.inr ⟨rfl,u5,f,ps,cs,x.2.2.2.2.1,_,V,rfl,hF.step0 st5,iV.mono sX4.ge,hcx _ (by simp),fun u6 h6 s6=>⟨zz0,?_⟩⟩))
     obtain⟨S2,hS2⟩: ∃S2,S2=slotR cs V x.2.2.2.2.1:=⟨_,rfl⟩
     rw[←hS2]
     have hse2:(Slot.enc S2).toArray= #[.bool S2.1,.int .i64 S2.2]:=rfl
     rw[hse2]
     have X6:=X5.step0 s6
     have sY:=Step.push0 S0 u6 h6 #[.bool S2.1,.int .i64 S2.2] 123
     have Y7:=Blk.new (u:=u6) (h:=h6) [.bool S2.1,.int .i64 S2.2] 123
     have X7:=X6.step0 sY
     have sXY:=(sX4.trans0 s6).trans0 sY
     have st7:=st.trans0 sXY
     have hz6:=s6.ge.sz
     have x6l:=X6.1
     obtain⟨h7,hh7⟩: ∃h7,h7=h6.push (.cells #[.bool S2.1,.int .i64 S2.2] 123):=⟨_,rfl⟩
     have hsz7:h7.size=h6.size+1:=by rw[hh7];simp only[e_psz]
     obtain⟨u7,hu7⟩: ∃u7,u7=ub u6 h6.size 0:=⟨_,rfl⟩
     rw[←hh7,←hu7]at sY sXY st7 X7
     have Y7:Blk u7 h7 h6.size [.bool S2.1,.int .i64 S2.2]:=by rw[hu7,hh7];exact Y7
     have x7l:=X7.1
     have y7l:=Y7.1
     have A7:=A.step0 sXY
     have R7:=R.step0 sXY
     have r7l:=R7.1
     have t7:=ot.step0 sXY
     have n7:=on.step0 sXY
     obtain⟨pb',po',hpe,hpb',hpu',hpz',hpr'⟩:=(hl.mono st7.ge).row i x hs
     simp only[Option.some.injEq,Addr.mk.injEq,and_true]at hpe
     obtain⟨rfl,rfl⟩:=hpe
     rw[rep_literal]at hpr'
     obtain⟨pv',hpr',hpv'⟩:=hpr'
     simp only[Term.enc,sz_literal,hvs_14,List.cons_append,List.nil_append,List.cons.injEq,and_true]at hpr' hpu' hpz'
     obtain⟨z0,z1,z2,z3,z4,-⟩:=hpr'
     have hrt:Rep.rep u7 h7 ((x.2.2.1,S1,S2):Test) [.int .i64 x.2.2.1,.bool S1.1,.int .i64 S1.2,.bool S2.1,.int .i64 S2.2]:=by rw[rep_test]
     have hTe:testR cs V x=(x.2.2.1,S1,S2):=by rw[hS1,hS2];rfl
     rw[hTe]at hTn
     simp(disch:=first|omega|(simp only[zz];try omega;done)) only[↓reduceIte,go_sem,←hh7,e1,e5,e9,hlt,z4,X7.at,X7.2.1,Y7.at,Y7.2.1,R7.at,R7.2.1]
     refine effS_app1o (e':=126) (cs:=[.int .i64 x.2.2.1,.bool S1.1,.int .i64 S1.2,.bool S2.1,.int .i64 S2.2]) rfl t7 hrt rfl rfl (by omega) (by omega) fun a8 n8 c8 u8 h8 o8 s8 w8=>⟨zz0,?_⟩
     have nn: ∀j,j<h.size+2→ ¬OwnB (.slice ta Ti.length tc) j:=fun j e hj=>by have:=ot.ge hj;omega
     have A8:=A7.step s8 (nn _ (by omega))
     have R8:=R7.step s8 (nn _ (by omega))
     have m8:=n7.step s8 fun b hb hb2=>hdis b hb2 hb
     have st8:=st7.own s8 fun j hj=>by have:=ot.ge hj;omega
     have hz8:=s8.ge.sz
     obtain⟨xa8,xc8,hx8,-,-⟩:=o8.sl
     cases hx8
     obtain⟨T8,hT8⟩: ∃T8,T8=Ti++[((x.2.2.1,S1,S2):Test)]:=⟨_,rfl⟩
     have hTl8:Ti.length+1=T8.length:=by rw[hT8,List.length_append];rfl
     have d8: ∀b,OwnB (.slice a8 T8.length c8) b→ ¬OwnB (.slice na Ni.length nc) b:=fun b hb hb2=>by
      rcases w8 b (by rw[←hT8];exact hb)with h|h
      ·exact hdis b h hb2
      ·have:=on.lt hb2;omega
     rw[←hT8]at o8 hTn ⊢
     have sv:=R8.stepSet (i:=3) (v:= .slice a8 T8.length c8)
     have R9:Blk u8 (hset h8 (h.size+1) 3 (.slice a8 T8.length c8)) (h.size+1) [.int .i64 0,.slice none 0 0,.slice wa P.length wc,.slice a8 T8.length c8,.slice na Ni.length nc,.slice sa V.length sc,.int .i64 0]:=R8.set (i:=3) (v:= .slice a8 T8.length c8) (by simp)
     have A9:=A8.step sv fun e=>by have e:h.size=h.size+1:=e;omega
     have o9:=o8.step sv fun b hb e=>by have e:b=h.size+1:=e;have:=o8.ge hb;omega
     have m9:=m8.step sv fun b hb e=>by have e:b=h.size+1:=e;have:=m8.ge hb;omega
     have st9:=st8.own sv fun j e=>by have e:j=h.size+1:=e;omega
     have hz9:=sv.ge.sz
     have r8l:=R8.1
     have g9:=(((sXY.ge).trans s8.ge).trans sv.ge)
     simp(disch:=first|omega|(simp only[zz];try omega;done)) only[↓reduceIte,go_sem,e5,e9,R8.2.1,R8.2.2.1]
     refine⟨i+1,?_,by omega⟩
     rw[hJ]
     exact⟨by simp [upd,e0],by simp [upd,e1],by simp [upd,e4],by simp [upd,e5],by simp [upd,e6],by simp [upd],hlt,u8,_,_,st9,by omega,A9,R9,by rw[hTn];exact o9,by rw[hNn];exact m9,d8,iP.mono g9,iV.mono g9⟩
    ·rw[decide_eq_false hk,if_neg (by simp),List.append_nil]at hTn
     rw[decide_eq_false hk2,if_neg (by simp),List.append_nil]at hNn
     simp(disch:=first|omega|(simp only[zz];try omega;done)) only[↓reduceIte,go_sem,rfBody_L2,e1,e9,hlt,p0,eq_false hk,eq_false hk2]
     refine⟨i+1,?_,by omega⟩
     rw[hJ]
     exact⟨by simp [upd,e0],by simp [upd,e1],by simp [upd,e4],by simp [upd,e5],by simp [upd,e6],by simp [upd],hlt,u',_,_,st,hz,A,R,by rw[hTn];exact ot,by rw[hNn];exact on,hdis,iP,iV⟩
  ·obtain rfl:i=ls.length:=by omega
   rw[List.take_length]at ot on R
   have b9:=A.sets (l:=[.int .i64 0,.slice none 0 0,.slice wa P.length wc,.slice ta (testsR cs V ls).length tc,.slice na (negsR ps cs V ls).length nc,.slice sa V.length sc,.int .i64 0]) rfl
   have sw:=A.stepSets (l:=[.int .i64 0,.slice none 0 0,.slice wa P.length wc,.slice ta (testsR cs V ls).length tc,.slice na (negsR ps cs V ls).length nc,.slice sa V.length sc,.int .i64 0]) rfl
   have hK':=hK _ _ [.int .i64 0,.slice none 0 0,.slice wa P.length wc,.slice ta (testsR cs V ls).length tc,.slice na (negsR ps cs V ls).length nc,.slice sa V.length sc,.int .i64 0] (st.own sw fun j e=>by have e:j=h.size:=e;omega) (by
    rw[hbr,rep_rule]
    exact⟨_,_,_,_,_,rfl,IsSl.nil _ _,iP.mono sw.ge,ot.isSl.mono sw.ge,on.isSl.mono sw.ge,iV.mono sw.ge⟩)
   simp(disch:=first|omega|(simp only[zz];try omega;done)) only[↓reduceIte,go_sem,rfBody_L2,e1,e4,e5,e9,R.at,R.2.1,A.2.1,A.2.2.1,b9.at,b9.2.1]
   exact hK'
end Go.Proofs.YtmjinnbdnpedcaaGreat
