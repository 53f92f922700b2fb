/- The variables of a body: in core (with a map) and in the reference (a list looked through). -/
import Derived.Test.YtmjinnbdnpedcaaGreatClauseS
import Derived.Test.YtmjinnbdnpedcaaGreatEvE
namespace Edict
abbrev Strs:=List (List UInt8)
def varT(vs:Strs)(t:Term):Strs:=if t.1=4∧(t.2.2.1=[95]∨t.2.2.1 ∉ vs)then vs++[t.2.2.1]else vs
def varL(vs:Strs)(l:Literal):Strs:=if l.1=1 then l.2.1.2.1.foldl varT vs else vs
def varsF(ls:List Literal):Strs:=ls.foldl varL []
theorem fold_snoc{α β:Type}{f:β→α→β}{b:β}{l:List α}{i:Nat}{x:α}(h:l[i]? =some x):(l.take (i+1)).foldl f b=f ((l.take i).foldl f b) x:=by
 rw[List.take_add_one,h,Option.toList_some,List.foldl_append];rfl
def argN(l:Literal):Nat:=l.2.1.2.1.length
def tot(ls:List Literal):Nat:=(ls.map argN).sum
theorem varT_len(vs:Strs)(t:Term):(varT vs t).length≤vs.length+1:=by unfold varT;split<;>simp
theorem varsT_len: ∀(l:List Term) (vs:Strs),(l.foldl varT vs).length≤vs.length+l.length
 |[],vs=>by simp
 |t::l,vs=>by have:=varsT_len l (varT vs t);have:=varT_len vs t;simp only[List.foldl_cons,List.length_cons];omega
theorem varsL_len: ∀(l:List Literal) (vs:Strs),(l.foldl varL vs).length≤vs.length+tot l
 |[],vs=>by simp [tot]
 |x::l,vs=>by
  have h1:=varsL_len l (varL vs x)
  have h2:(varL vs x).length≤vs.length+argN x:=by
   unfold varL argN;split
   ·exact varsT_len _ _
   ·omega
  simp only[List.foldl_cons,tot,List.map_cons,List.sum_cons]at h1 ⊢
  omega
theorem tot_take{l:List Literal}{i:Nat}{x:Literal}(h:l[i]? =some x):tot (l.take i)+argN x≤tot l:=by
 have e:tot l=tot (l.take i)+tot (l.drop i):=by unfold tot;rw[←List.sum_append_nat,←List.map_append,List.take_append_drop]
 obtain⟨hi,rfl⟩:=List.getElem?_eq_some_iff.1 h
 rw[e,List.drop_eq_getElem_cons hi]
 simp only[tot,List.map_cons,List.sum_cons]
 omega
open Go.Ev in
theorem tot_bulk: ∀l:List Literal,tot l≤bulkL l
 |[]=>Nat.zero_le _
 |x::l=>by
  have h1:=tot_bulk l
  have h2:=bulkL_pos x.2.1.2.1
  have h3:Rep.bulk x=1+((x.2.1.1.length+1+(bulkL x.2.1.2.1+1))+(1+(Rep.bulk x.2.2.2.1+(Rep.bulk x.2.2.2.2.1+1)))):=rfl
  simp only[tot,List.map_cons,List.sum_cons,bulkL,argN]at h1 ⊢
  omega
theorem inner_len{l:List Literal}{i j:Nat}{x:Literal}(h:l[i]? =some x):((x.2.1.2.1.take j).foldl varT (varsF (l.take i))).length≤Go.Ev.bulkL l:=by
 have h1:=varsT_len (x.2.1.2.1.take j) (varsF (l.take i))
 have h2:=varsL_len (l.take i) []
 have h3:=tot_take h
 have h4:=tot_bulk l
 have h5:(x.2.1.2.1.take j).length≤argN x:=by rw[List.length_take];exact Nat.min_le_right _ _
 unfold varsF at h1 ⊢
 simp only[List.length_nil]at h2
 omega
end Edict
namespace Go.Proofs.YtmjinnbdnpedcaaGreat
open Go Go.Ev Edict
variable {vs:List Value} {h:H} {K:Value→H→Prop} {KP:List PanicEntry→H→Prop}
theorem mlen':maxLen=9223372036854775807:=rfl
def C_among(vs:List Value)(h:H)(K:Value→H→Prop):Prop:= ∃(u:U) (v:Value) (l:Strs) (s:List UInt8),vs=[v,str s]∧IsSl u h v l∧ ∀i:Int,(i<0↔s ∉ l)→K (.int .i64 i) h
theorem rfAmong_ok(hC:C_among vs h K):HCX Tryz.prog 65 vs h K KP:=by
 obtain⟨u,v,l,s,rfl,hl,hK⟩:=hC
 obtain⟨la,lc,rfl,q1,q2⟩:=hl.sl
 have hm:=mlen'
 refine rfAmong_H (fun _ _ _ _ _=>False) (fun _ _ _ _ _ h=>h.elim) _ _ ?_
 simp(disch:=first|omega|(simp only[zz];try omega;done)) only[go_sem,rfAmong_S,rfAmong_E]
 obtain⟨I,hI⟩: ∃I:Nat→Env→H→Prop,I=fun i σ h'=>σ 0= .slice la l.length lc∧σ 1=str s∧σ 5= .int .i64 i∧i≤l.length∧s ∉ l.take i∧h'=h:=⟨_,rfl⟩
 refine wpS_loop I (fun i=>l.length - i) 0 (by rw[hI];exact⟨by simp [upd],by simp [upd],by simp [upd],Nat.zero_le _,by simp,rfl⟩) ?_
 intro i σ h' hy
 rw[hI]at hy
 obtain⟨e0,e1,e5,hi,hno,rfl⟩:=hy
 by_cases hlt:i<l.length
 ·obtain⟨x,hs⟩: ∃x,l[i]? =some x:=⟨l[i],by simp [hlt]⟩
  obtain⟨pb,po,rfl,hpb,hpu,hpz,hpr⟩:=hl.row i x hs
  simp only[rep_str,sz_str,hvs_1,List.cons.injEq,and_true]at hpr hpu hpz
  by_cases he:x=s
  ·simp(disch:=first|omega|(simp only[zz];try omega;done)) only[↓reduceIte,go_sem,rfAmong_L1,e0,e1,e5,hlt,hpr,eq_true he]
   exact hK i ⟨fun h=>by omega,fun h=>absurd (List.mem_of_getElem? (he▸hs)) h⟩
  ·simp(disch:=first|omega|(simp only[zz];try omega;done)) only[↓reduceIte,go_sem,rfAmong_L1,e0,e1,e5,hlt,hpr,eq_false he]
   refine⟨i+1,?_,by omega⟩
   rw[hI]
   refine⟨by simp [upd,e0],by simp [upd,e1],by simp [upd],hlt,?_,rfl⟩
   rw[List.take_add_one,hs,Option.toList_some,List.mem_append,List.mem_singleton]
   rintro (h|h)
   ·exact hno h
   ·exact he h.symm
 ·obtain rfl:i=l.length:=by omega
  rw[List.take_length]at hno
  simp(disch:=first|omega|(simp only[zz];try omega;done)) only[↓reduceIte,go_sem,rfAmong_L1,e0,e5]
  exact hK _ ⟨fun _=>hno,fun _=>by omega⟩
def C_vars(vs:List Value)(h:H)(K:Value→H→Prop):Prop:= ∃(u:U) (v:Value) (ls:List Literal),vs=[v]∧IsSl u h v ls∧bulkL ls≤1048576∧ ∀u' h' w,Step S0 u h u' h'→IsSl u' h' w (varsF ls)→K w h'
def G_rfVars:Ctr:=fun f vs h K _=>f=65∧C_among vs h K
theorem G_rfVars_ok:GOk Tryz.prog G_rfVars:=by
 rintro f vs h K KP ⟨rfl,hC⟩;exact rfAmong_ok hC
theorem rfVars_ok(hC:C_vars vs h K):HCX Tryz.prog 62 vs h K KP:=by
 obtain⟨u,v,ls,rfl,hl,hbk,hK⟩:=hC
 obtain⟨la,lc,rfl,q1,q2⟩:=hl.sl
 have hm:=mlen'
 refine rfVars_H G_rfVars G_rfVars_ok _ ?_
 simp(disch:=first|omega|(simp only[zz];try omega;done)) only[go_sem,rfVars_S,rfVars_E]
 obtain⟨I,hI⟩: ∃I:Nat→Env→H→Prop,I=fun i σ h'=>σ 0= .slice la ls.length lc∧σ 4= .int .i64 i∧i≤ls.length∧ ∃u',Step S0 u h u' h'∧Own h.size u' h' (σ 3) (varsF (ls.take i)):=⟨_,rfl⟩
 refine wpS_loop I (fun i=>ls.length - i) 0 (by rw[hI];exact⟨by simp [upd],by simp [upd],Nat.zero_le _,u,.refl _ _ _,by simp only[upd];exact .nil _ _ _⟩) ?_
 intro i σ h' hy
 rw[hI]at hy
 obtain⟨e0,e4,hi,u',st,ho⟩:=hy
 by_cases hlt:i<ls.length
 ·obtain⟨x,hs⟩: ∃x,ls[i]? =some x:=⟨ls[i],by simp [hlt]⟩
  obtain⟨pb,po,rfl,hpb,hpu,hpz,hpr⟩:=(hl.mono st.ge).row i x hs
  rw[rep_literal]at hpr
  obtain⟨pv,hpr,hpv⟩:=hpr
  obtain⟨pva,pvc,rfl,-,-⟩:=hpv.sl
  have hpr0:=hpr
  simp only[Term.enc,sz_literal,hvs_14,List.cons_append,List.nil_append,List.cons.injEq,and_true]at hpr0 hpu hpz
  obtain⟨p0,p1,p2,-⟩:=hpr0
  by_cases hk:x.1=1
  ·simp(disch:=first|omega|(simp only[zz];try omega;done)) only[↓reduceIte,go_sem,rfVars_L1,e0,e4,hlt,p0,eq_true hk]
   obtain⟨J,hJ⟩: ∃J:Nat→Env→H→Prop,J=fun j σ h'=>σ 0= .slice (some ⟨pb,po,none⟩) ls.length lc∧σ 4= .int .i64 i∧σ 5= .int .i64 j∧j≤x.2.1.2.1.length∧ ∃u',Step S0 u h u' h'∧Own h.size u' h' (σ 3) ((x.2.1.2.1.take j).foldl varT (varsF (ls.take i))):=⟨_,rfl⟩
   refine wpS_loop J (fun j=>x.2.1.2.1.length - j) 0 (by rw[hJ];exact⟨by simp [upd,e0],by simp [upd,e4],by simp [upd],Nat.zero_le _,u',st,by simpa [upd]using ho⟩) ?_
   clear ho st hpr p0 p1 p2 hpz hpu hpb hpv e0 e4
   intro j σ1 h1 hy
   rw[hJ]at hy
   obtain⟨e0,e4,e5,hj,u1,st,ho⟩:=hy
   obtain⟨pb',po',hpe,hpb,hpu,hpz,hpr⟩:=(hl.mono st.ge).row i x hs
   cases hpe
   rw[rep_literal]at hpr
   obtain⟨pv,hpr,hpv⟩:=hpr
   obtain⟨pva',pvc',rfl,r1,r2⟩:=hpv.sl
   simp only[Term.enc,sz_literal,hvs_14,List.cons_append,List.nil_append,List.cons.injEq,and_true]at hpr hpu hpz
   obtain⟨p0,p1,p2,-⟩:=hpr
   have hln:=inner_len (j:=j) hs
   by_cases hlt2:j<x.2.1.2.1.length
   ·obtain⟨t,hts⟩: ∃t,x.2.1.2.1[j]? =some t:=⟨x.2.1.2.1[j],by simp [hlt2]⟩
    obtain⟨tb,to,rfl,htb,htu,htz,htr⟩:=hpv.row j t hts
    rw[rep_term]at htr
    simp only[Term.enc,sz_term,hvs_4,List.cons.injEq,and_true]at htr htu htz
    obtain⟨t0,t1,t2,t3⟩:=htr
    have hsn:=fold_snoc (f:=varT) (b:=varsF (ls.take i)) hts
    obtain⟨va,vc,hva,-,-⟩:=ho.sl
    have hne: ∀b,OwnB (σ1 3) b→b<h1.size:=fun b hb=>ho.lt hb
    have skip: ∀σ' u' h',σ' 0=σ1 0→σ' 4=σ1 4→σ' 3=σ1 3→σ' 5= .int .i64 ((j:Int)+1)→Step S0 u1 h1 u' h'→varT ((x.2.1.2.1.take j).foldl varT (varsF (ls.take i))) t=(x.2.1.2.1.take j).foldl varT (varsF (ls.take i))→ ∃y,J y σ' h'∧x.2.1.2.1.length - y<x.2.1.2.1.length - j:=fun σ' u' h' g0 g4 g3 g5 sx gv=>by
     refine⟨j+1,?_,by omega⟩
     rw[hJ]
     refine⟨by rw[g0,e0],by rw[g4,e4],g5,hlt2,u',st.trans0 sx,?_⟩
     rw[hsn,gv,g3]
     exact ho.step0 sx
    by_cases hk4:t.1=4
    ·have app: ∀(σ':Env) (u':U) (h':H) (p k:Nat) (r:List St) (Q:Env→H→Prop) (KP':List PanicEntry→H→Prop),Step S0 u1 h1 u' h'→p=h'.size→((x.2.1.2.1.take j).foldl varT (varsF (ls.take i))).length≤1048576→
       (∀a n c u3 h3,Own h.size u3 h3 (.slice a n c) ((x.2.1.2.1.take j).foldl varT (varsF (ls.take i))++[t.2.2.1])→Step S0 u h u3 h3→wpSts G_rfVars r Q KP' (updo σ' (some k) (.slice a n c)) h3)→
       effS G_rfVars (.app 9 1 16 [str []]) (some k) [] r Q KP' [σ1 3,.slice (some ⟨p,0,none⟩) 1 1] σ' (h'.push (.cells #[str t.2.2.1] 9)):=fun σ' u' h' p k r Q KP' sx hp hb hq=>by
      have hos:=ho.step0 sx
      refine effS_app1p hp hos (x:=t.2.2.1) (by rw[rep_str]) rfl rfl (Nat.le_trans st.ge.sz sx.ge.sz) (by omega) fun a n c u3 h3 ho3 s3=>⟨by simp only[e_stab0],hq a n c u3 h3 ho3 ?_⟩
      exact(st.trans0 sx).trans s3 (fun b hb hB=>by have:=hos.ge hB;omega)
     by_cases h95:t.2.2.1=[95]
     ·have hv:varT ((x.2.1.2.1.take j).foldl varT (varsF (ls.take i))) t=(x.2.1.2.1.take j).foldl varT (varsF (ls.take i))++[t.2.2.1]:=by unfold varT;rw[if_pos ⟨hk4,.inl h95⟩]
      simp(disch:=first|omega|(simp only[zz];try omega;done)) only[↓reduceIte,go_sem,rfVars_L2,e0,e4,e5,p2,hlt,hlt2,t0,t1,t2,t3,eq_true hk4,eq_true h95]
      refine app _ _ _ _ _ _ _ _ (by repeat (first|exact Step.refl _ _ _|assumption|apply Step.pushR)) (by simp only[e_psz]) (by omega) fun a n c u3 h3 ho3 st3=> ?_
      simp(disch:=first|omega|(simp only[zz];try omega;done)) only[↓reduceIte,go_sem,e5]
      refine⟨j+1,?_,by omega⟩
      rw[hJ]
      refine⟨by simp [upd,e0],by simp [upd,e4],by simp [upd],hlt2,u3,st3,?_⟩
      rw[hsn,hv]
      simpa [upd]using ho3
     ·have hos:=fun(u':U) (h':H) (sx:Step S0 u1 h1 u' h')=>(ho.step0 sx).isSl
      by_cases hin:t.2.2.1∈(x.2.1.2.1.take j).foldl varT (varsF (ls.take i))
      ·have hv:varT ((x.2.1.2.1.take j).foldl varT (varsF (ls.take i))) t=(x.2.1.2.1.take j).foldl varT (varsF (ls.take i)):=by
        unfold varT;rw[if_neg];rintro ⟨-,h|h⟩
        ·exact h95 h
        ·exact h hin
       simp(disch:=first|omega|(simp only[zz];try omega;done)) only[↓reduceIte,go_sem,rfVars_L2,e0,e4,e5,p2,hlt,hlt2,t0,t1,t2,t3,eq_true hk4,eq_false h95]
       refine effS_call ⟨rfl,_,_,_,_,rfl,hos _ _ (by repeat (first|exact Step.refl _ _ _|assumption|apply Step.pushR)),fun k hk'=>⟨zz0,?_⟩⟩
       have hk0: ¬k<0:=fun h=>hk'.1 h hin
       simp(disch:=first|omega|(simp only[zz];try omega;done)) only[↓reduceIte,go_sem,e5,eq_false hk0]
       exact skip _ _ _ (by simp [upd]) (by simp [upd]) (by simp [upd]) (by simp [upd]) (by repeat (first|exact Step.refl _ _ _|assumption|apply Step.pushR)) hv
      ·have hv:varT ((x.2.1.2.1.take j).foldl varT (varsF (ls.take i))) t=(x.2.1.2.1.take j).foldl varT (varsF (ls.take i))++[t.2.2.1]:=by unfold varT;rw[if_pos ⟨hk4,.inr hin⟩]
       simp(disch:=first|omega|(simp only[zz];try omega;done)) only[↓reduceIte,go_sem,rfVars_L2,e0,e4,e5,p2,hlt,hlt2,t0,t1,t2,t3,eq_true hk4,eq_false h95]
       refine effS_call ⟨rfl,_,_,_,_,rfl,hos _ _ (by repeat (first|exact Step.refl _ _ _|assumption|apply Step.pushR)),fun k hk'=>⟨zz0,?_⟩⟩
       have hk0:k<0:=hk'.2 hin
       simp(disch:=first|omega|(simp only[zz];try omega;done)) only[↓reduceIte,go_sem,eq_true hk0]
       refine app _ _ _ _ _ _ _ _ (by repeat (first|exact Step.refl _ _ _|assumption|apply Step.pushR)) (by simp only[e_psz]) (by omega) fun a n c u3 h3 ho3 st3=> ?_
       simp(disch:=first|omega|(simp only[zz];try omega;done)) only[↓reduceIte,go_sem,e5]
       refine⟨j+1,?_,by omega⟩
       rw[hJ]
       refine⟨by simp [upd,e0],by simp [upd,e4],by simp [upd],hlt2,u3,st3,?_⟩
       rw[hsn,hv]
       simpa [upd]using ho3
    ·have hv:varT ((x.2.1.2.1.take j).foldl varT (varsF (ls.take i))) t=(x.2.1.2.1.take j).foldl varT (varsF (ls.take i)):=by unfold varT;rw[if_neg (fun h=>hk4 h.1)]
     by_cases h95:t.2.2.1=[95]
     ·simp(disch:=first|omega|(simp only[zz];try omega;done)) only[↓reduceIte,go_sem,rfVars_L2,e0,e4,e5,p2,hlt,hlt2,t0,t1,t2,t3,eq_false hk4,eq_true h95]
      exact skip _ _ _ (by simp [upd]) (by simp [upd]) (by simp [upd]) (by simp [upd]) (by repeat (first|exact Step.refl _ _ _|assumption|apply Step.pushR)) hv
     ·simp(disch:=first|omega|(simp only[zz];try omega;done)) only[↓reduceIte,go_sem,rfVars_L2,e0,e4,e5,p2,hlt,hlt2,t0,t1,t2,t3,eq_false hk4,eq_false h95]
      exact skip _ _ _ (by simp [upd]) (by simp [upd]) (by simp [upd]) (by simp [upd]) (by repeat (first|exact Step.refl _ _ _|assumption|apply Step.pushR)) hv
   ·obtain rfl:j=x.2.1.2.1.length:=by omega
    rw[List.take_length]at ho
    simp(disch:=first|omega|(simp only[zz];try omega;done)) only[↓reduceIte,go_sem,rfVars_L2,e0,e4,e5,p2,hlt]
    refine⟨i+1,?_,by omega⟩
    rw[hI]
    refine⟨by simp [upd,e0],by simp [upd],hlt,u1,st,?_⟩
    have e:varsF (ls.take (i+1))=x.2.1.2.1.foldl varT (varsF (ls.take i)):=by unfold varsF;rw[fold_snoc hs];unfold varL;rw[if_pos hk]
    rw[e]
    simpa [upd]using ho
  ·simp(disch:=first|omega|(simp only[zz];try omega;done)) only[↓reduceIte,go_sem,rfVars_L1,e0,e4,hlt,p0,eq_false hk]
   refine⟨i+1,?_,by omega⟩
   rw[hI]
   refine⟨by simp [upd,e0],by simp [upd],hlt,u',st,?_⟩
   have e:varsF (ls.take (i+1))=varsF (ls.take i):=by unfold varsF;rw[fold_snoc hs];unfold varL;rw[if_neg hk]
   rw[e]
   simpa [upd]using ho
 ·obtain rfl:i=ls.length:=by omega
  rw[List.take_length]at ho
  simp(disch:=first|omega|(simp only[zz];try omega;done)) only[↓reduceIte,go_sem,rfVars_L1,e0,e4]
  exact hK _ _ _ st ho.isSl
end Go.Proofs.YtmjinnbdnpedcaaGreat
