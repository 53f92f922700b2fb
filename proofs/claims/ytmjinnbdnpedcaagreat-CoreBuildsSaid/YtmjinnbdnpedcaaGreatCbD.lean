/- The reference's Build: names, variables. -/
import Derived.Test.YtmjinnbdnpedcaaGreatCbC
namespace Edict
theorem find_at{α:Type}{f:α→Bool}{t:α}: ∀{l:List α} {i:Nat},l[i]? =some t→(∀s∈l.take i,f s=false)→f t=true→l.find? f=some t
 |[],i,h,_,_=>by simp at h
 |a::l,0,h,_,hb=>by simp only[List.getElem?_cons_zero,Option.some.injEq]at h;subst h;simp [hb]
 |a::l,i+1,h,hn,hb=>by
  rw[List.find?_cons_of_neg (by simp [hn a (by simp)])]
  exact find_at (l:=l) (i:=i) (by simpa using h) (fun s hs=>hn s (by simp [hs])) hb
theorem crowd_step{vs:Strs}{t:Term}{l:List Term}:crowdF vs (t::l)=if 16<(varT vs t).length then some t else crowdF (varT vs t) l:=rfl
theorem varT_loose{vs:Strs}{t:Term}(h:looseB vs t=true):varT vs t=vs++[t.2.2.1]:=by unfold varT;rw[if_pos (loose_iff.1 h)]
theorem varT_bound{vs:Strs}{t:Term}(h:looseB vs t=false):varT vs t=vs:=by unfold varT;rw[if_neg fun e=>by rw[loose_iff.2 e]at h;cases h]
end Edict
namespace Go.Proofs.YtmjinnbdnpedcaaGreat
open Go Go.Ev Edict
variable {vs:List Value} {h:H} {K:Value→H→Prop} {KP:List PanicEntry→H→Prop}
/-! ### Names -/
def C_pred(vs:List Value)(h:H)(K:Value→H→Prop):Prop:= ∃(u:U) (v:Value) (ps:List Pred) (s:List UInt8),vs=[v,str s]∧IsSl u h v ps∧K (.int .i64 (predI ps s)) h
theorem rfPred_ok(hC:C_pred vs h K):HCX Tryz.prog 35 vs h K KP:=by
 obtain⟨u,v,l,s,rfl,hl,hK⟩:=hC
 obtain⟨la,lc,rfl,q1,q2⟩:=hl.sl
 have hm:=mlen'
 refine rfPred_H (fun _ _ _ _ _=>False) (fun _ _ _ _ _ h=>h.elim) _ _ ?_
 simp(disch:=first|omega|(simp only[zz];try omega;done)) only[go_sem,rfPred_S,rfPred_E]
 obtain⟨I,hI⟩: ∃I:Nat→Env→H→Prop,I=fun i σ h'=>σ 0= .slice la l.length lc∧σ 1=str s∧σ 5= .int .i64 i∧i≤l.length∧s ∉ (l.map (·.1)).take i∧h'=h:=⟨_,rfl⟩
 refine wpS_loop I (fun i=>l.length - i) 0 (by rw[hI];exact⟨by simp [upd],by simp [upd],by simp [upd],Nat.zero_le _,by simp,rfl⟩) ?_
 intro i σ h' hy
 rw[hI]at hy
 obtain⟨e0,e1,e5,hi,hno,rfl⟩:=hy
 by_cases hlt:i<l.length
 ·obtain⟨x,hs⟩: ∃x,l[i]? =some x:=⟨l[i],by simp [hlt]⟩
  obtain⟨pb,po,rfl,hpb,hpu,hpz,hpr⟩:=hl.row i x hs
  simp only[rep_pred,sz_pred,hvs_2,List.cons.injEq,and_true]at hpr hpu hpz
  have hsm:(l.map (·.1))[i]? =some x.1:=by rw[List.getElem?_map,hs];rfl
  by_cases he:x.1=s
  ·simp(disch:=first|omega|(simp only[zz];try omega;done)) only[↓reduceIte,go_sem,rfPred_L1,e0,e1,e5,hlt,hpr.1,eq_true he]
   have:predI l s=i:=pos_first hno (by rw[hsm,he])
   rw[this]at hK;exact hK
  ·simp(disch:=first|omega|(simp only[zz];try omega;done)) only[↓reduceIte,go_sem,rfPred_L1,e0,e1,e5,hlt,hpr.1,eq_false he]
   refine⟨i+1,?_,by omega⟩
   rw[hI]
   refine⟨by simp [upd,e0],by simp [upd,e1],by simp [upd],hlt,?_,rfl⟩
   rw[List.take_add_one,hsm,Option.toList_some,List.mem_append,List.mem_singleton]
   rintro (h|h)
   ·exact hno h
   ·exact he h.symm
 ·obtain rfl:i=l.length:=by omega
  rw[List.take_of_length_le (by rw[List.length_map];exact Nat.le_refl _)]at hno
  simp(disch:=first|omega|(simp only[zz];try omega;done)) only[↓reduceIte,go_sem,rfPred_L1,e0,e5]
  have:predI l s= -1:=posI_out hno
  rw[this]at hK;exact hK
/-! ### Variables -/
def C_looseR(vs:List Value)(h:H)(K:Value→H→Prop):Prop:= ∃(u:U) (v w:Value) (c:Clause),vs=[v,w]∧IsSl u h v c.1.2.1∧IsSl u h w c.2∧Rep.bulk c≤1048576∧
 ∀u' h' (t:Term) (b:Bool),Step S0 u h u' h'→looseO c=(if b then some t else none)→K (.tuple #[.agg (Term.enc t).toArray,.bool b]) h'
theorem rfLooseR_ok(hC:C_looseR vs h K):HCX Tryz.prog 37 vs h K KP:=by
 obtain⟨u,v,w,⟨⟨hp,hargs,hoff⟩,ls⟩,rfl,hh,hl,hbk,hK⟩:=hC
 obtain⟨hb1,hb2,hb3⟩:=clause_bulk hbk
 simp only at hh hl hb1 hb2 hb3
 obtain⟨ha,hc,rfl,-,-⟩:=hh.sl
 obtain⟨la,lc,rfl,q1,q2⟩:=hl.sl
 have hm:=mlen'
 refine rfLooseT_H G_rfLooseT G_rfLooseT_ok _ _ ?_
 simp(disch:=first|omega|(simp only[zz];try omega;done)) only[↓reduceIte,go_sem,rfLooseT_S,rfLooseT_E]
 have sp:=Step.push0 S0 u h #[.int .i64 0,.int .i64 0,str [],.int .i64 0] 56
 have B0:Blk (ub u h.size 0) (h.push (.cells #[.int .i64 0,.int .i64 0,str [],.int .i64 0] 56)) h.size [.int .i64 0,.int .i64 0,str [],.int .i64 0]:=(Blk.mk (by simp only[e_psz];omega) (by simp(disch:=first|omega|(simp only[zz];try omega;done)) only[go_sem]) (by simp(disch:=first|omega|(simp only[zz];try omega;done)) only[go_sem]) (by repeat (first|(refine ub_at ?_;simp only[];done)|apply ub_zero)) (by simp(disch:=first|omega|(simp only[zz];try omega;done)) only[go_sem]))
 refine effS_call (.inl ⟨rfl,_,_,ls,rfl,hl.mono sp.ge,hb1,fun u1 h1 w s1 hw=>⟨zz0,?_⟩⟩)
 have st1:=sp.trans0 s1
 have B1:=B0.step0 s1
 have hB1:=B1.1
 obtain⟨vs,hvd⟩: ∃vs,vs=varsF ls:=⟨_,rfl⟩
 rw[←hvd]at hw
 simp(disch:=first|omega|(simp only[zz];try omega;done)) only[↓reduceIte,go_sem]
 have o1:=own_empty (α:=Term) h1.size u1 h1 (Nat.le_refl _) 56
 have sp2:=Step.push0 S0 u1 h1 #[] 56
 have st2:=st1.trans0 sp2
 have B2:=B1.step0 sp2
 refine effS_app (k:=h1.size) o1 (hh.mono st2.ge) rfl rfl (by simp only[e_psz];omega) (by simp only[List.length_nil];omega) fun a n k u3 h3 ho3 s3=>⟨zz0,?_⟩
 have st3:Step S0 u h u3 h3:=st2.trans s3 (fun b hb hB=>by have:=o1.ge hB;omega)
 have B3:=B2.step s3 (fun hB=>by have:=o1.ge hB;omega)
 have hw3:=hw.mono (Step.ge (S:=fun b=>OwnB (.slice (some ⟨h1.size,0,none⟩) 0 0) b) ((sp2.mono (fun _ _ h=>h.elim)).trans s3 (fun _ _ h=>h)))
 rw[List.nil_append]at ho3
 simp(disch:=first|omega|(simp only[zz];try omega;done)) only[↓reduceIte,go_sem]
 obtain⟨I,hI⟩: ∃I:Nat→Env→H→Prop,I=fun i σ h'=>σ 1= .slice la ls.length lc∧σ 4= .pointer (some ⟨h.size,0,none⟩)∧σ 6=w∧σ 8= .int .i64 i∧i≤ls.length∧ ∃u',Step S0 u h u' h'∧Blk u' h' h.size [.int .i64 0,.int .i64 0,str [],.int .i64 0]∧IsSl u' h' w vs∧Own (h.size+1) u' h' (σ 7) (hargs++(ls.take i).flatMap askL):=⟨_,rfl⟩
 refine wpS_loop I (fun i=>ls.length - i) 0 (by rw[hI];exact⟨by simp [upd],by simp [upd],by simp [upd],by simp [upd],Nat.zero_le _,u3,st3,B3,hw3,by simpa [upd]using ho3.mono (by omega)⟩) ?_
 clear ho3 hw3 B3 st3 s3 B2 st2 sp2 o1 hw B1 st1 s1 B0 sp
 intro i σ h' hy
 rw[hI]at hy
 obtain⟨e1,e4,e6,e8,hi,u',st,b0,hw,ho⟩:=hy
 have hne: ∀b,OwnB (σ 7) b→h.size+1≤b:=fun b hb=>ho.ge hb
 have hk0:=b0.1
 by_cases hlt:i<ls.length
 ·skip
  obtain⟨x,hs⟩: ∃x,ls[i]? =some x:=⟨ls[i],by simp [hlt]⟩
  obtain⟨pb,po,rfl,hpb,hpu,hpz,hpr⟩:=(hl.mono st.ge).row i x hs
  have hprs:=hpr
  rw[rep_literal]at hpr
  obtain⟨pv,hpr,hpv⟩:=hpr
  obtain⟨pva,pvc,rfl,r1,r2⟩:=hpv.sl
  have hcs:hvs h' pb (po+i*Rep.sz Literal) (Rep.sz Literal)= #[.int .i64 x.1,str x.2.1.1,.slice pva x.2.1.2.1.length pvc,.int .i64 x.2.1.2.2,.int .i64 x.2.2.1,.int .i64 x.2.2.2.1.1,.int .i64 x.2.2.2.1.2.1,str x.2.2.2.1.2.2.1,.int .i64 x.2.2.2.1.2.2.2,.int .i64 x.2.2.2.2.1.1,.int .i64 x.2.2.2.2.1.2.1,str x.2.2.2.2.1.2.2.1,.int .i64 x.2.2.2.2.1.2.2.2,.int .i64 x.2.2.2.2.2].toList:=by rw[hpr];rfl
  rw[hcs]at hprs
  simp only[Term.enc,sz_literal,hvs_14,List.cons_append,List.nil_append,List.cons.injEq,and_true]at hpr hpu hpz
  obtain⟨p0,p1,p2,p3,p4,p5,p6,p7,p8,p9,p10,p11,p12,p13⟩:=hpr
  have hfl:=flat_le (f:=askL) hs
  have hsn:=flat_snoc (f:=askL) hs
  have next: ∀(σ':Env) (u1:U) (h1:H) (S:Nat→Prop),σ' 1=σ 1→σ' 4=σ 4→σ' 6=σ 6→σ' 8= .int .i64 ((i:Int)+1)→Step S u' h' u1 h1→(∀b,S b→h.size+1≤b)→Own (h.size+1) u1 h1 (σ' 7) (hargs++(ls.take i).flatMap askL++askL x)→ ∃y,I y σ' h1∧ls.length - y<ls.length - i:=fun σ' u1 h1 S g1 g4 g6 g8 sx hS ho'=>by
   refine⟨i+1,?_,by omega⟩
   rw[hI]
   exact⟨by rw[g1,e1],by rw[g4,e4],by rw[g6,e6],g8,hlt,u1,st.trans sx (fun b hb hB=>by have:=hS b hB;omega),b0.step sx (fun hB=>by have:=hS _ hB;omega),hw.mono sx.ge,by rw[hsn,←List.append_assoc];exact ho'⟩
  by_cases hk:x.1=2
  ·have htl:askL x=x.2.1.2.1:=by unfold askL;rw[if_pos hk];rfl
   rw[htl]at hfl next
   simp(disch:=first|omega|(simp only[zz];try omega;done)) only[↓reduceIte,go_sem,rfLooseT_L1,e1,e8,hlt,p0,p2,eq_true hk]
   refine effS_app ho hpv rfl rfl (by omega) (by rw[List.length_append];omega) fun a n k u3 h3 ho3 s3=>⟨zz0,?_⟩
   have hcs3:=hcs
   obtain⟨pb',po',hpe,hpb,hpu,hpz,hpr⟩:=(hl.mono (st.trans s3 (fun b hb hB=>by have:=hne b hB;omega)).ge).row i x hs
   cases hpe
   rw[rep_literal]at hpr
   obtain⟨pv,hpr,-⟩:=hpr
   simp only[Term.enc,sz_literal,hvs_14,List.cons_append,List.nil_append,List.cons.injEq,and_true]at hpr hpu hpz
   obtain⟨p0,p1,p2,p3,p4,p5,p6,p7,p8,p9,p10,p11,p12,p13⟩:=hpr
   simp(disch:=first|omega|(simp only[zz];try omega;done)) only[↓reduceIte,go_sem,e1,e8,hlt,p0,eq_false (show¬x.1=3 by omega)]
   exact next _ u3 h3 _ (by simp [upd]) (by simp [upd]) (by simp [upd]) (by simp [upd]) s3 hne (by simpa [upd]using ho3)
  by_cases hk3:x.1=3
  ·have htl:askL x=[x.2.2.2.1,x.2.2.2.2.1]:=by unfold askL;rw[if_neg hk,if_pos hk3]
   rw[htl]at hfl next
   simp only[List.length_cons,List.length_nil]at hfl
   simp(disch:=first|omega|(simp only[zz];try omega;done)) only[↓reduceIte,go_sem,rfLooseT_L1,e1,e8,hlt,p0,p5,p6,p7,p8,p9,p10,p11,p12,eq_true hk3,eq_false (show¬x.1=2 by omega)]
   have hsl:=(Own.made (k:=0) (α:=Term) u' h' (Nat.zero_le _) 56 [x.2.2.2.1,x.2.2.2.2.1] (Term.enc x.2.2.2.1++Term.enc x.2.2.2.2.1) rfl (by simp only[List.length_cons,List.length_nil];decide) (fun i y hx=>by
     match i with
     |0=>cases hx;rw[rep_term];rfl
     |1=>cases hx;rw[rep_term];rfl
     |i+2=>simp at hx)).isSl
   have sp2:=Step.push S0 u' h' (Term.enc x.2.2.2.1++Term.enc x.2.2.2.2.1).toArray 56 (2*4)
   simp only[Term.enc,List.cons_append,List.nil_append,List.length_cons,List.length_nil,Nat.zero_add,Nat.reduceAdd,Nat.reduceMul,sz_term]at hsl sp2
   refine effS_app (ho.step0 sp2) hsl rfl rfl (by simp only[e_psz];omega) (by simp only[List.length_append,List.length_cons,List.length_nil];omega) fun a n k u3 h3 ho3 s3=>⟨zz0,?_⟩
   simp(disch:=first|omega|(simp only[zz];try omega;done)) only[↓reduceIte,go_sem,e8]
   exact next _ u3 h3 _ (by simp [upd]) (by simp [upd]) (by simp [upd]) (by simp [upd]) ((sp2.mono (fun _ _ h=>h.elim)).trans s3 (fun _ _ h=>h)) hne (by simpa [upd]using ho3)
  ·have htl:askL x=[]:=by unfold askL;rw[if_neg hk,if_neg hk3]
   rw[htl]at next
   simp(disch:=first|omega|(simp only[zz];try omega;done)) only[↓reduceIte,go_sem,rfLooseT_L1,e1,e8,hlt,p0,eq_false hk3,eq_false (show¬x.1=2 by omega)]
   exact next _ u' _ S0 (by simp [upd]) (by simp [upd]) (by simp [upd]) (by simp [upd]) (.refl _ _ _) (fun _ h=>h.elim) (by rw[List.append_nil];simpa [upd]using ho)
 ·obtain rfl:i=ls.length:=by omega
  rw[List.take_length]at ho
  have hlen:(hargs++ls.flatMap askL).length≤4194304:=by rw[List.length_append];omega
  have hub:looseO ((hp,hargs,hoff),ls)=(hargs++ls.flatMap askL).find? (looseB vs):=by rw[hvd];rfl
  rw[hub]at hK
  obtain⟨ts,hts⟩: ∃ts,ts=hargs++ls.flatMap askL:=⟨_,rfl⟩
  rw[←hts]at ho hlen hK
  obtain⟨ta,tc,hta,-,-⟩:=ho.sl
  have htl:ts.length≤9223372036854775807:=by omega
  have hti:=ho.isSl
  rw[hta]at hti
  simp(disch:=first|omega|(simp only[zz];try omega;done)) only[↓reduceIte,go_sem,rfLooseT_L1,e1,e8]
  obtain⟨J,hJ⟩: ∃J:Nat→Env→H→Prop,J=fun j σ h'=>σ 4= .pointer (some ⟨h.size,0,none⟩)∧σ 6=w∧σ 7= .slice ta ts.length tc∧σ 9= .int .i64 j∧j≤ts.length∧
    ∃u',Step S0 u h u' h'∧Blk u' h' h.size [.int .i64 0,.int .i64 0,str [],.int .i64 0]∧IsSl u' h' w vs∧IsSl u' h' (.slice ta ts.length tc) ts∧(∀s∈ts.take j,looseB vs s=false):=⟨_,rfl⟩
  refine wpS_loop J (fun j=>ts.length - j) 0 (by
   rw[hJ]
   exact⟨by simp [upd,e4],by simp [upd,e6],by simp [upd,hta],by simp [upd],Nat.zero_le _,u',st,b0,hw,hti,by simp⟩) ?_
  clear hI I e1 e4 e6 e8 hw st b0 hti hta ho hk0
  intro j σ1 h2 hy
  rw[hJ]at hy
  obtain⟨e4,e6,e7,e9,hj,u2,st,b0,hw,ht,hno⟩:=hy
  have hk0:=b0.1
  by_cases hlt:j<ts.length
  ·obtain⟨t,hs⟩: ∃t,ts[j]? =some t:=⟨ts[j],by simp [hlt]⟩
   obtain⟨tb,to,rfl,htb,htu,htz,htr⟩:=ht.row j t hs
   rw[rep_term]at htr
   simp only[Term.enc,sz_term,hvs_4,List.cons.injEq,and_true]at htr htu htz
   obtain⟨t0,t1,t2,t3⟩:=htr
   simp(disch:=first|omega|(simp only[zz];try omega;done)) only[↓reduceIte,go_sem,rfLooseT_L2,e6,e7,e9,hlt,t0,t1,t2,t3]
   refine effS_call (.inr ⟨rfl,u2,t,_,vs,rfl,hw,fun u3 h3 s3=>⟨zz0,?_⟩⟩)
   have st3:=st.trans0 s3
   have ht3:=ht.mono s3.ge
   have b3:=b0.step0 s3
   have hk3:=b3.1
   cases hb:looseB vs t with
   |true=>
    obtain⟨tb',to',hpe,htb,htu,htz,htr⟩:=ht3.row j t hs
    cases hpe
    rw[rep_term]at htr
    simp only[Term.enc,sz_term,hvs_4,List.cons.injEq,and_true]at htr htu htz
    obtain⟨t0,t1,t2,t3⟩:=htr
    have b4:=b3.sets (l:=[.int .i64 t.1,.int .i64 t.2.1,str t.2.2.1,.int .i64 t.2.2.2]) rfl
    have s4:=Step.setsR (l:=[.int .i64 t.1,.int .i64 t.2.1,str t.2.2.1,.int .i64 t.2.2.2]) (o:=0) st3 (.inl (Nat.le_refl _)) (by rw[b3.2.2.2.1];exact Nat.le_refl _) (by rw[b3.2.1];exact Nat.le_refl _)
    have e:=find_at hs hno hb
    have hK':=hK u3 _ t true s4 (by rw[if_pos rfl];exact e)
    simp(disch:=first|omega|(simp only[zz];try omega;done)) only[↓reduceIte,go_sem,e4,e7,e9,hlt,t0,t1,t2,t3,b3.2.1,b3.2.2.1,b4.at,b4.2.1]
    exact hK'
   |false=>
    simp(disch:=first|omega|(simp only[zz];try omega;done)) only[↓reduceIte,go_sem,e9]
    refine⟨j+1,?_,by omega⟩
    rw[hJ]
    exact⟨by simp [upd,e4],by simp [upd,e6],by simp [upd,e7],by simp [upd],hlt,u3,st3,b3,hw.mono s3.ge,ht3,none_upto hno hs hb⟩
  ·obtain rfl:j=ts.length:=by omega
   rw[List.take_length]at hno
   have b4:=b0.sets (l:=[.int .i64 0,.int .i64 0,str [],.int .i64 0]) rfl
   have s4:=Step.setsR (l:=[.int .i64 0,.int .i64 0,str [],.int .i64 0]) (o:=0) st (.inl (Nat.le_refl _)) (by rw[b0.2.2.2.1];exact Nat.le_refl _) (by rw[b0.2.1];exact Nat.le_refl _)
   have hK':=hK u2 _ (0,0,[],0) false s4 (by simp only[Bool.false_eq_true,if_false];rw[List.find?_eq_none];intro x hx;rw[hno x hx];simp)
   simp(disch:=first|omega|(simp only[zz];try omega;done)) only[↓reduceIte,go_sem,rfLooseT_L2,e4,e7,e9,b0.2.1,b0.2.2.1,b4.at,b4.2.1]
   exact hK'

def C_crowdR(vs:List Value)(h:H)(K:Value→H→Prop):Prop:= ∃(u:U) (v w:Value) (c:Clause),vs=[v,w]∧IsSl u h v c.1.2.1∧IsSl u h w c.2∧(termsC c).length≤136∧(∀x∈c.2,Kind3 x)∧
 ∀u' h' (t:Term) (b:Bool),Step S0 u h u' h'→crowdF [] (termsC c)=(if b then some t else none)→K (.tuple #[.agg (Term.enc t).toArray,.bool b]) h'
def G_rfCrowd:Ctr:=fun f vs h K _=>(f=38∧C_bodyTm vs h K)∨(f=61∧C_loose vs h K)
theorem G_rfCrowd_ok:GOk Tryz.prog G_rfCrowd:=by
 rintro f vs h K KP (⟨rfl,hC⟩|⟨rfl,hC⟩)
 ·exact rfBodyTerms_ok hC
 ·exact rfLoose_ok hC
theorem rfCrowd_ok(hC:C_crowdR vs h K):HCX Tryz.prog 36 vs h K KP:=by
 obtain⟨u,v,w,c,rfl,hh,hb,hx1,hx2,hK⟩:=hC
 obtain⟨ha,hc,rfl,q1,q2⟩:=hh.sl
 obtain⟨ba,bc,rfl,q3,q4⟩:=hb.sl
 have hm:=mlen'
 have hx1':c.1.2.1.length+(c.2.flatMap termsL).length≤136:=by
  have:=hx1;unfold termsC at this;rw[List.length_append]at this;exact this
 refine rfCrowd_H G_rfCrowd G_rfCrowd_ok _ _ ?_
 simp(disch:=first|omega|(simp only[zz];try omega;done)) only[↓reduceIte,go_sem,rfCrowd_S,rfCrowd_E]
 have s1:=Step.push0 S0 u h #[.int .i64 0,.int .i64 0,str [],.int .i64 0] 56
 have B1:=Blk.new (u:=u) (h:=h) [.int .i64 0,.int .i64 0,str [],.int .i64 0] 56
 obtain⟨u1,hu1⟩: ∃u1,u1=ub u h.size 0:=⟨_,rfl⟩
 obtain⟨h1,hh1⟩: ∃h1,h1=h.push (.cells #[.int .i64 0,.int .i64 0,str [],.int .i64 0] 56):=⟨_,rfl⟩
 have hz1:h1.size=h.size+1:=by rw[hh1];simp only[e_psz]
 have B1:Blk u1 h1 h.size [.int .i64 0,.int .i64 0,str [],.int .i64 0]:=by rw[hu1,hh1];exact B1
 rw[←hu1,←hh1]at s1
 rw[←hh1]
 have o1:=own_empty (α:=Term) (h.size+1) u1 h1 (by omega) 56
 have spA:=Step.push0 S0 u1 h1 #[] 56
 have BA:=B1.step0 spA
 have stA:=s1.trans0 spA
 rw[hz1]at o1 spA stA BA
 refine effS_app (k:=h.size+1) o1 (hh.mono stA.ge) rfl rfl (by simp only[e_psz];omega) (by simp only[List.length_nil];omega) fun a n k u3 h3 ho3 s3=>⟨zz0,?_⟩

 have st3:=stA.own s3 fun j hj=>by have:=o1.ge hj;omega
 have B3:=BA.step s3 fun hj=>by have:=o1.ge hj;omega
 have hz3:=s3.ge.sz
 simp only[e_psz]at hz3
 simp only[List.nil_append]at ho3
 simp(disch:=first|omega|(simp only[zz];try omega;done)) only[↓reduceIte,go_sem]
 refine effS_call (.inl ⟨rfl,u3,_,c.2,rfl,hb.mono st3.ge,by omega,hx2,fun u4 h4 w4 s4 hw4=>⟨zz0,?_⟩⟩)
 have st4:=st3.trans0 s4
 have B4:=B3.step0 s4
 have ho4:=ho3.step0 s4
 have hz4:=s4.ge.sz
 simp(disch:=first|omega|(simp only[zz];try omega;done)) only[↓reduceIte,go_sem]
 refine effS_app ho4 hw4 rfl rfl (by omega) (by omega) fun a5 n5 c5 u5 h5 ho5 s5=>⟨zz0,?_⟩
 have st5:=st4.own s5 fun j hj=>by have:=ho4.ge hj;omega
 have B5:=B4.step s5 fun hj=>by have:=ho4.ge hj;omega
 have hz5:=s5.ge.sz
 obtain⟨ta,tc,htv,-,-⟩:=ho5.sl
 have iT:=ho5.isSl
 rw[htv]at iT ⊢
 have hTe:c.1.2.1++c.2.flatMap termsL=termsC c:=rfl
 rw[hTe]at iT ⊢
 obtain⟨T,hT⟩: ∃T,T=termsC c:=⟨_,rfl⟩
 rw[←hT]at iT hx1 hK ⊢
 simp(disch:=first|omega|(simp only[zz];try omega;done)) only[↓reduceIte,go_sem]
 obtain⟨J,hJ⟩: ∃J:Nat→Env→H→Prop,J=fun j σ h'=>σ 4= .pointer (some ⟨h.size,0,none⟩)∧σ 6= .slice ta T.length tc∧σ 9= .int .i64 j∧j≤T.length∧ ∃u' V,Step S0 u h u' h'∧Blk u' h' h.size [.int .i64 0,.int .i64 0,str [],.int .i64 0]∧h.size+1≤h'.size∧Own (h.size+1) u' h' (σ 8) V∧V.length≤16∧crowdF [] T=crowdF V (T.drop j)∧IsSl u' h' (.slice ta T.length tc) T:=⟨_,rfl⟩
 refine wpS_loop J (fun j=>T.length - j) 0 (by rw[hJ];exact⟨by simp [upd],by simp [upd],by simp [upd],Nat.zero_le _,u5,([]:Strs),st5,B5,by omega,by simp only[upd];exact .nil _ _ _,Nat.zero_le _,rfl,iT⟩) ?_
 clear st5 B5 iT hz5 ho5 s5 st4 B4 ho4 hz4 s4 hw4 ho3 s3 B3 st3 htv
 intro j τ h7 hy
 rw[hJ]at hy
 obtain⟨f4,f6,f9,hj,u7,V,st7,B7,hz7,ho7,hV,heq,iT⟩:=hy
 by_cases hjl:j<T.length
 ·obtain⟨t,ht⟩: ∃t,T[j]? =some t:=⟨T[j],by simp [hjl]⟩
  have hdr:T.drop j=t::T.drop (j+1):=by
   obtain⟨hi',rfl⟩:=List.getElem?_eq_some_iff.1 ht
   exact List.drop_eq_getElem_cons hi'
  rw[hdr,crowd_step]at heq
  obtain⟨qb,qo,hqe,hqb,hqu,hqz,hqr⟩:=iT.row j t ht
  subst hqe
  have hcs:=hqr
  simp only[rep_term,Term.enc,sz_term,hvs_4,List.cons.injEq,and_true]at hqr hqu hqz
  obtain⟨t0,t1,t2,t3⟩:=hqr
  obtain⟨sa,sc,hσ8,-,-⟩:=ho7.sl
  rw[hσ8]at ho7
  have b7l:=B7.1
  simp(disch:=first|omega|(simp only[zz];try omega;done)) only[↓reduceIte,go_sem,rfCrowd_L1,f6,f9,hjl,t0,t1,t2,t3,hσ8]
  refine effS_call (.inr ⟨rfl,u7,t,_,V,rfl,ho7.isSl,fun u8 h8 s8=>⟨zz0,?_⟩⟩)
  have st8:=st7.trans0 s8
  have B8:=B7.step0 s8
  have ho8:=ho7.step0 s8
  have iT8:=iT.mono s8.ge
  have hz8:=s8.ge.sz
  have b8l:=B8.1
  obtain⟨qb',qo',hqe,hqb8,hqu8,hqz8,hqr8⟩:=iT8.row j t ht
  simp only[Option.some.injEq,Addr.mk.injEq,and_true]at hqe
  obtain⟨rfl,rfl⟩:=hqe
  simp only[rep_term,Term.enc,sz_term,hvs_4,List.cons.injEq,and_true]at hqr8 hqu8 hqz8
  obtain⟨g0,g1,g2,g3⟩:=hqr8
  cases hlo:looseB V t with
  |false=>
   rw[varT_bound hlo,if_neg (by omega)]at heq
   simp(disch:=first|omega|(simp only[zz];try omega;done)) only[↓reduceIte,go_sem,f9]
   refine⟨j+1,?_,by omega⟩
   rw[hJ]
   exact⟨by simp [upd,f4],by simp [upd,f6],by simp [upd],hjl,u8,V,st8,B8,by omega,by simpa [upd,hσ8]using ho8,hV,heq,iT8⟩
  |true=>
   rw[varT_loose hlo]at heq
   by_cases h16:V.length=16
   ·rw[if_pos (by rw[List.length_append,List.length_singleton];omega)]at heq
    have b9:=B8.sets (l:=[.int .i64 t.1,.int .i64 t.2.1,str t.2.2.1,.int .i64 t.2.2.2]) rfl
    have s9:=Step.setsR (l:=[.int .i64 t.1,.int .i64 t.2.1,str t.2.2.1,.int .i64 t.2.2.2]) (o:=0) st8 (.inl (Nat.le_refl _)) (by rw[B8.2.2.2.1];exact Nat.le_refl _) (by rw[B8.2.1];exact Nat.le_refl _)
    have hK':=hK u8 _ t true s9 heq
    have hvi:(V.length:Int)=16:=by omega
    simp(disch:=first|omega|(simp only[zz];try omega;done)) only[↓reduceIte,go_sem,f4,f6,f9,hσ8,hjl,eq_true hvi,g0,g1,g2,g3,B8.2.1,B8.2.2.1,b9.at,b9.2.1]
    exact hK'
   ·rw[if_neg (by rw[List.length_append,List.length_singleton];omega)]at heq
    have hvi: ¬(V.length:Int)=16:=by omega
    have hx:Rep.rep u8 h8 t.2.2.1 [str t.2.2.1]:=by rw[rep_str]
    simp(disch:=first|omega|(simp only[zz];try omega;done)) only[↓reduceIte,go_sem,f6,f9,hσ8,hjl,eq_false hvi,g2]
    refine effS_app1 (e':=9) (cs:=[str t.2.2.1]) ho8 hx rfl rfl (by omega) (by omega) fun a n c9 u9 h9 ho9 s9=>⟨zz0,?_⟩
    have st9:=st8.own s9 fun j hj=>by have:=ho8.ge hj;omega
    have B9:=B8.step s9 fun hj=>by have:=ho8.ge hj;omega
    have hz9:=s9.ge.sz
    simp(disch:=first|omega|(simp only[zz];try omega;done)) only[↓reduceIte,go_sem,f9]
    refine⟨j+1,?_,by omega⟩
    rw[hJ]
    exact⟨by simp [upd,f4],by simp [upd,f6],by simp [upd],hjl,u9,V++[t.2.2.1],st9,B9,by omega,by simpa [upd]using ho9,by rw[List.length_append,List.length_singleton];omega,heq,iT8.mono s9.ge⟩
 ·obtain rfl:j=T.length:=by omega
  rw[List.drop_length]at heq
  have b9:=B7.sets (l:=[.int .i64 0,.int .i64 0,str [],.int .i64 0]) rfl
  have s9:=Step.setsR (l:=[.int .i64 0,.int .i64 0,str [],.int .i64 0]) (o:=0) st7 (.inl (Nat.le_refl _)) (by rw[B7.2.2.2.1];exact Nat.le_refl _) (by rw[B7.2.1];exact Nat.le_refl _)
  have hK':=hK u7 _ (0,0,[],0) false s9 heq
  have b7l:=B7.1
  simp(disch:=first|omega|(simp only[zz];try omega;done)) only[↓reduceIte,go_sem,rfCrowd_L1,f4,f6,f9,B7.2.1,B7.2.2.1,b9.at,b9.2.1]
  exact hK'
end Go.Proofs.YtmjinnbdnpedcaaGreat
