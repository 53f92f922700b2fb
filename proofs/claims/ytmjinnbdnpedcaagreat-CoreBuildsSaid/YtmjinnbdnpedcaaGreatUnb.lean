/- The loose variables of a clause: in core. -/
import Derived.Test.YtmjinnbdnpedcaaGreatVarsC
namespace Edict
def argsOf(l:Literal):List Term:=l.2.1.2.1
def termsL(l:Literal):List Term:=if l.1=1∨l.1=2 then argsOf l else if l.1=3 then [l.2.2.2.1,l.2.2.2.2.1]else []
def askL(l:Literal):List Term:=if l.1=2 then argsOf l else if l.1=3 then [l.2.2.2.1,l.2.2.2.2.1]else []
def restOf(ls:List Literal):List Literal:=ls.filter fun l=>decide (l.1≠1)
theorem ask_rest: ∀ls:List Literal,(restOf ls).flatMap termsL=ls.flatMap askL
 |[]=>rfl
 |x::l=>by
  have h:=ask_rest l
  unfold restOf at h ⊢
  by_cases h1:x.1=1
  ·rw[List.filter_cons_of_neg (by simp [h1]),h,List.flatMap_cons]
   have:askL x=[]:=by unfold askL;rw[if_neg (by omega),if_neg (by omega)]
   rw[this,List.nil_append]
  ·rw[List.filter_cons_of_pos (by simp [h1]),List.flatMap_cons,List.flatMap_cons,h]
   have:termsL x=askL x:=by
    unfold termsL askL
    by_cases h2:x.1=2
    ·rw[if_pos (.inr h2),if_pos h2]
    ·rw[if_neg (by omega),if_neg h2]
   rw[this]
open Go.Ev in
theorem lit_bulk(x:Literal):(argsOf x).length+4≤Rep.bulk x:=by
 have h2:=bulkL_pos x.2.1.2.1
 have h3:Rep.bulk x=1+((x.2.1.1.length+1+(bulkL x.2.1.2.1+1))+(1+(Rep.bulk x.2.2.2.1+(Rep.bulk x.2.2.2.2.1+1)))):=rfl
 unfold argsOf;omega
open Go.Ev in
theorem flat_bulk{f:Literal→List Term}(hf: ∀x,(f x).length≤(argsOf x).length+2): ∀ls:List Literal,(ls.flatMap f).length≤bulkL ls
 |[]=>Nat.zero_le _
 |x::l=>by
  have h1:=flat_bulk hf l
  have h2:=hf x
  have h3:=lit_bulk x
  simp only[List.flatMap_cons,List.length_append,bulkL];omega
theorem termsL_len(x:Literal):(termsL x).length≤(argsOf x).length+2:=by unfold termsL;split;omega;split<;>simp
theorem askL_len(x:Literal):(askL x).length≤(argsOf x).length+2:=by unfold askL;split;omega;split<;>simp
theorem flat_snoc{α β:Type}{f:α→List β}{l:List α}{i:Nat}{x:α}(h:l[i]? =some x):(l.take (i+1)).flatMap f=(l.take i).flatMap f++f x:=by
 rw[List.take_add_one,h,Option.toList_some,List.flatMap_append];simp
theorem flat_le{α β:Type}{f:α→List β}{l:List α}{i:Nat}{x:α}(h:l[i]? =some x):((l.take i).flatMap f).length+(f x).length≤(l.flatMap f).length:=by
 have e:l.flatMap f=(l.take (i+1)).flatMap f++(l.drop (i+1)).flatMap f:=by rw[←List.flatMap_append,List.take_append_drop]
 rw[e,flat_snoc h];simp only[List.length_append];omega
open Go.Ev in
theorem bulk_filter{α:Type} [Rep α]{p:α→Bool}: ∀l:List α,bulkL (l.filter p)≤bulkL l
 |[]=>Nat.le_refl _
 |x::l=>by
  have:=bulk_filter (p:=p) l
  by_cases h:p x=true
  ·rw[List.filter_cons_of_pos h];simp only[bulkL];omega
  ·rw[List.filter_cons_of_neg h];simp only[bulkL];omega
def looseB(vs:Strs)(t:Term):Bool:=decide (t.1=4) && (decide (t.2.2.1=[95]) || decide (t.2.2.1 ∉ vs))
def looseI(vs:Strs):List Term→Nat→Int
 |[],_=> -1
 |t::l,i=>if looseB vs t then i else looseI vs l (i+1)
def offOf(vs:Strs):List Term→Int
 |[]=> -1
 |t::l=>if looseB vs t then t.2.2.2 else offOf vs l
theorem looseI_none{vs:Strs}: ∀{l:List Term} {k:Nat},(∀t∈l,looseB vs t=false)→looseI vs l k= -1∧offOf vs l= -1
 |[],_,_=>⟨rfl,rfl⟩
 |t::l,k,h=>by
  have h0:=h t (List.mem_cons_self ..)
  simp only[looseI,offOf,h0]
  exact looseI_none (fun t ht=>h t (List.mem_cons_of_mem _ ht))
theorem looseI_some{vs:Strs}: ∀{l:List Term} {i k:Nat} {t:Term},(∀s∈l.take i,looseB vs s=false)→l[i]? =some t→looseB vs t=true→looseI vs l k=k+i∧offOf vs l=t.2.2.2
 |[],i,_,_,_,h,_=>by simp at h
 |s::l,0,k,t,_,h,hb=>by cases h;simp [looseI,offOf,hb]
 |s::l,i+1,k,t,h,h1,hb=>by
  have h0:looseB vs s=false:=h s (by simp)
  have hr:=looseI_some (l:=l) (i:=i) (k:=k+1) (t:=t) (fun s hs=>h s (by simp only[List.take_succ_cons];exact List.mem_cons_of_mem _ hs)) (by simpa using h1) hb
  simp only[looseI,offOf,h0]
  refine⟨?_,hr.2⟩
  have:=hr.1
  simp only[Bool.false_eq_true,if_false]
  rw[this];omega
def allTerms(c:Clause):List Term:=c.1.2.1++c.2.flatMap askL
theorem none_upto{vs:Strs}{l:List Term}{i:Nat}{t:Term}(h: ∀s∈l.take i,looseB vs s=false)(hs:l[i]? =some t)(hb:looseB vs t=false): ∀s∈l.take (i+1),looseB vs s=false:=by
 intro s h1
 rw[List.take_add_one,hs,Option.toList_some,List.mem_append,List.mem_singleton]at h1
 rcases h1 with h1|rfl
 ·exact h s h1
 ·exact hb
end Edict
namespace Go.Proofs.YtmjinnbdnpedcaaGreat
open Go Go.Ev Edict
variable {vs:List Value} {h:H} {K:Value→H→Prop} {KP:List PanicEntry→H→Prop}
def C_lits{α:Type} [Rep α](f:List Literal→List α)(vs:List Value)(h:H)(K:Value→H→Prop):Prop:= ∃(u:U) (v:Value) (ls:List Literal),vs=[v]∧IsSl u h v ls∧bulkL ls≤1048576∧ ∀u' h' w,Step S0 u h u' h'→IsSl u' h' w (f ls)→K w h'
theorem crTerms_ok(hC:C_lits (fun ls=>ls.flatMap termsL) vs h K):HCX Tryz.prog 54 vs h K KP:=by
 obtain⟨u,v,ls,rfl,hl,hbk,hK⟩:=hC
 obtain⟨la,lc,rfl,q1,q2⟩:=hl.sl
 have hm:=mlen'
 have hfb:=flat_bulk termsL_len ls
 refine crTerms_H (fun _ _ _ _ _=>False) (fun _ _ _ _ _ h=>h.elim) _ ?_
 simp(disch:=first|omega|(simp only[zz];try omega;done)) only[↓reduceIte,go_sem,crTerms_S,crTerms_E]
 obtain⟨I,hI⟩: ∃I:Nat→Env→H→Prop,I=fun i σ h'=>σ 6= .slice la ls.length lc∧σ 7= .int .i64 ls.length∧σ 8= .int .i64 i∧i≤ls.length∧ ∃u',Step S0 u h u' h'∧Own h.size u' h' (σ 3) ((ls.take i).flatMap termsL):=⟨_,rfl⟩
 refine wpS_loop I (fun i=>ls.length - i) 0 (by rw[hI];exact⟨by simp [upd],by simp [upd],by simp [upd],Nat.zero_le _,u,.refl _ _ _,by simp only[upd];exact .nil _ _ _⟩) ?_
 intro i σ h' hy
 rw[hI]at hy
 obtain⟨e6,e7,e8,hi,u',st,ho⟩:=hy
 by_cases hlt:i<ls.length
 ·skip
  obtain⟨x,hs⟩: ∃x,ls[i]? =some x:=⟨ls[i],by simp [hlt]⟩
  obtain⟨pb,po,rfl,hpb,hpu,hpz,hpr⟩:=(hl.mono st.ge).row i x hs
  have hprs:=hpr
  rw[rep_literal]at hpr
  obtain⟨pv,hpr,hpv⟩:=hpr
  obtain⟨pva,pvc,rfl,r1,r2⟩:=hpv.sl
  have hcs:hvs h' pb (po+i*Rep.sz Literal) (Rep.sz Literal)= #[.int .i64 x.1,str x.2.1.1,.slice pva x.2.1.2.1.length pvc,.int .i64 x.2.1.2.2,.int .i64 x.2.2.1,.int .i64 x.2.2.2.1.1,.int .i64 x.2.2.2.1.2.1,str x.2.2.2.1.2.2.1,.int .i64 x.2.2.2.1.2.2.2,.int .i64 x.2.2.2.2.1.1,.int .i64 x.2.2.2.2.1.2.1,str x.2.2.2.2.1.2.2.1,.int .i64 x.2.2.2.2.1.2.2.2,.int .i64 x.2.2.2.2.2].toList:=by rw[hpr];rfl
  rw[hcs]at hprs
  simp only[Term.enc,sz_literal,hvs_14,List.cons_append,List.nil_append,List.cons.injEq,and_true]at hpr hpu hpz
  obtain⟨p0,p1,p2,p3,p4,p5,p6,p7,p8,p9,p10,p11,p12,p13⟩:=hpr
  have sp:=Step.push0 S0 u' h' #[.int .i64 x.1,str x.2.1.1,.slice pva x.2.1.2.1.length pvc,.int .i64 x.2.1.2.2,.int .i64 x.2.2.1,.int .i64 x.2.2.2.1.1,.int .i64 x.2.2.2.1.2.1,str x.2.2.2.1.2.2.1,.int .i64 x.2.2.2.1.2.2.2,.int .i64 x.2.2.2.2.1.1,.int .i64 x.2.2.2.2.1.2.1,str x.2.2.2.2.1.2.2.1,.int .i64 x.2.2.2.2.1.2.2.2,.int .i64 x.2.2.2.2.2] 119
  have hos:=ho.step0 sp
  have hfl:=flat_le (f:=termsL) hs
  have hsn:=flat_snoc (f:=termsL) hs
  have hk0:h.size≤h'.size:=st.ge.sz
  have next: ∀(σ':Env) (u':U) (h1:H),σ' 6=σ 6→σ' 7=σ 7→σ' 8= .int .i64 ((i:Int)+1)→Step S0 u h u' h1→Own h.size u' h1 (σ' 3) ((ls.take i).flatMap termsL++termsL x)→ ∃y,I y σ' h1∧ls.length - y<ls.length - i:=fun σ' u' h1 g6 g7 g8 sx ho'=>by
   refine⟨i+1,?_,by omega⟩
   rw[hI]
   exact⟨by rw[g6,e6],by rw[g7,e7],g8,hlt,u',sx,by rw[hsn];exact ho'⟩
  have hne: ∀b,OwnB (σ 3) b→h.size≤b:=fun b hb=>ho.ge hb
  by_cases hk:x.1=1∨x.1=2
  ·have htl:termsL x=x.2.1.2.1:=by unfold termsL;rw[if_pos hk];rfl
   rw[htl]at hfl next
   have fin: ∀(r:List St) (Q:Env→H→Prop) (KP':List PanicEntry→H→Prop) (σ':Env),(∀a n c u3 h3,Own h.size u3 h3 (.slice a n c) ((ls.take i).flatMap termsL++x.2.1.2.1)→Step S0 u h u3 h3→wpSts (fun _ _ _ _ _=>False) r Q KP' (updo σ' (some 21) (.slice a n c)) h3)→
     effS (fun _ _ _ _ _=>False) (.app 56 4 40 [.int .i64 0,.int .i64 0,str [],.int .i64 0]) (some 21) [] r Q KP' [σ 3,.slice pva x.2.1.2.1.length pvc] σ' (h'.push (.cells #[.int .i64 x.1,str x.2.1.1,.slice pva x.2.1.2.1.length pvc,.int .i64 x.2.1.2.2,.int .i64 x.2.2.1,.int .i64 x.2.2.2.1.1,.int .i64 x.2.2.2.1.2.1,str x.2.2.2.1.2.2.1,.int .i64 x.2.2.2.1.2.2.2,.int .i64 x.2.2.2.2.1.1,.int .i64 x.2.2.2.2.1.2.1,str x.2.2.2.2.1.2.2.1,.int .i64 x.2.2.2.2.1.2.2.2,.int .i64 x.2.2.2.2.2] 119)):=fun r Q KP' σ' hq=>
    effS_app hos (hpv.mono sp.ge) rfl rfl (by simp only[e_psz];omega) (by omega) fun a n c u3 h3 ho3 s3=>⟨by simp only[e_stab0],hq a n c u3 h3 ho3 ((st.trans0 sp).trans s3 (fun b hb hB=>by have:=hne b hB;omega))⟩
   rcases hk with hk|hk
   ·simp(disch:=first|omega|(simp only[zz];try omega;done)) only[↓reduceIte,go_sem,crTerms_L1,e6,e7,e8,hlt,p0,p1,p2,p3,p4,p5,p6,p7,p8,p9,p10,p11,p12,p13,eq_true hk]
    refine fin _ _ _ _ fun a n c u3 h3 ho3 st3=> ?_
    simp(disch:=first|omega|(simp only[zz];try omega;done)) only[↓reduceIte,go_sem,e8]
    exact next _ u3 h3 (by simp [upd]) (by simp [upd]) (by simp [upd]) st3 (by simpa [upd]using ho3)
   ·simp(disch:=first|omega|(simp only[zz];try omega;done)) only[↓reduceIte,go_sem,crTerms_L1,e6,e7,e8,hlt,p0,p1,p2,p3,p4,p5,p6,p7,p8,p9,p10,p11,p12,p13,eq_true hk,eq_false (show¬x.1=1 by omega)]
    refine fin _ _ _ _ fun a n c u3 h3 ho3 st3=> ?_
    simp(disch:=first|omega|(simp only[zz];try omega;done)) only[↓reduceIte,go_sem,e8]
    exact next _ u3 h3 (by simp [upd]) (by simp [upd]) (by simp [upd]) st3 (by simpa [upd]using ho3)
  by_cases hk3:x.1=3
  ·have htl:termsL x=[x.2.2.2.1,x.2.2.2.2.1]:=by unfold termsL;rw[if_neg hk,if_pos hk3]
   rw[htl]at hfl next
   simp only[List.length_cons,List.length_nil]at hfl
   simp(disch:=first|omega|(simp only[zz];try omega;done)) only[↓reduceIte,go_sem,crTerms_L1,e6,e7,e8,hlt,p0,p1,p2,p3,p4,p5,p6,p7,p8,p9,p10,p11,p12,p13,eq_true hk3,eq_false (show¬x.1=1 by omega),eq_false (show¬x.1=2 by omega)]
   have hsl:=(Own.made (k:=0) (α:=Term) (ub u' h'.size 0) (h'.push (.cells #[.int .i64 x.1,str x.2.1.1,.slice pva x.2.1.2.1.length pvc,.int .i64 x.2.1.2.2,.int .i64 x.2.2.1,.int .i64 x.2.2.2.1.1,.int .i64 x.2.2.2.1.2.1,str x.2.2.2.1.2.2.1,.int .i64 x.2.2.2.1.2.2.2,.int .i64 x.2.2.2.2.1.1,.int .i64 x.2.2.2.2.1.2.1,str x.2.2.2.2.1.2.2.1,.int .i64 x.2.2.2.2.1.2.2.2,.int .i64 x.2.2.2.2.2] 119)) (Nat.zero_le _) 56 [x.2.2.2.1,x.2.2.2.2.1] (Term.enc x.2.2.2.1++Term.enc x.2.2.2.2.1) rfl (by simp only[List.length_cons,List.length_nil];decide) (fun i y hx=>by
     match i with
     |0=>cases hx;rw[rep_term];rfl
     |1=>cases hx;rw[rep_term];rfl
     |i+2=>simp at hx)).isSl
   have sp2:=Step.push S0 (ub u' h'.size 0) (h'.push (.cells #[.int .i64 x.1,str x.2.1.1,.slice pva x.2.1.2.1.length pvc,.int .i64 x.2.1.2.2,.int .i64 x.2.2.1,.int .i64 x.2.2.2.1.1,.int .i64 x.2.2.2.1.2.1,str x.2.2.2.1.2.2.1,.int .i64 x.2.2.2.1.2.2.2,.int .i64 x.2.2.2.2.1.1,.int .i64 x.2.2.2.2.1.2.1,str x.2.2.2.2.1.2.2.1,.int .i64 x.2.2.2.2.1.2.2.2,.int .i64 x.2.2.2.2.2] 119)) (Term.enc x.2.2.2.1++Term.enc x.2.2.2.2.1).toArray 56 (2*4)
   simp only[e_psz,Term.enc,List.cons_append,List.nil_append,List.length_cons,List.length_nil,Nat.zero_add,Nat.reduceAdd,Nat.reduceMul,sz_term]at hsl sp2
   refine effS_app (hos.step0 sp2) hsl rfl rfl (by simp only[e_psz];omega) (by simp only[List.length_cons,List.length_nil];omega) fun a n c u3 h3 ho3 s3=>⟨zz0,?_⟩
   simp(disch:=first|omega|(simp only[zz];try omega;done)) only[↓reduceIte,go_sem,e8]
   exact next _ u3 h3 (by simp [upd]) (by simp [upd]) (by simp [upd]) (((st.trans0 sp).trans0 sp2).trans s3 (fun b hb hB=>by have:=hne b hB;omega)) (by simpa [upd]using ho3)
  ·have htl:termsL x=[]:=by unfold termsL;rw[if_neg hk,if_neg hk3]
   rw[htl]at next
   simp(disch:=first|omega|(simp only[zz];try omega;done)) only[↓reduceIte,go_sem,crTerms_L1,e6,e7,e8,hlt,p0,p1,p2,p3,p4,p5,p6,p7,p8,p9,p10,p11,p12,p13,eq_false hk3,eq_false (show¬x.1=1 by omega),eq_false (show¬x.1=2 by omega)]
   exact next _ _ _ (by simp [upd]) (by simp [upd]) (by simp [upd]) (st.trans0 sp) (by rw[List.append_nil];simpa [upd]using hos)
 ·obtain rfl:i=ls.length:=by omega
  rw[List.take_length]at ho
  simp(disch:=first|omega|(simp only[zz];try omega;done)) only[↓reduceIte,go_sem,crTerms_L1,e7,e8]
  exact hK _ _ _ st ho.isSl
def G_crAsked:Ctr:=fun f vs h K _=>f=54∧C_lits (fun ls=>ls.flatMap termsL) vs h K
theorem G_crAsked_ok:GOk Tryz.prog G_crAsked:=by
 rintro f vs h K KP ⟨rfl,hC⟩;exact crTerms_ok hC
theorem crAsked_ok(hC:C_lits (fun ls=>ls.flatMap askL) vs h K):HCX Tryz.prog 49 vs h K KP:=by
 obtain⟨u,v,ls,rfl,hl,hbk,hK⟩:=hC
 obtain⟨la,lc,rfl,q1,q2⟩:=hl.sl
 have hm:=mlen'
 have hll:=bulkL_pos ls
 refine crAsked_H G_crAsked G_crAsked_ok _ ?_
 simp(disch:=first|omega|(simp only[zz];try omega;done)) only[↓reduceIte,go_sem,crAsked_S,crAsked_E]
 obtain⟨I,hI⟩: ∃I:Nat→Env→H→Prop,I=fun i σ h'=>σ 6= .slice la ls.length lc∧σ 7= .int .i64 ls.length∧σ 8= .int .i64 i∧i≤ls.length∧ ∃u',Step S0 u h u' h'∧Own h.size u' h' (σ 3) (restOf (ls.take i)):=⟨_,rfl⟩
 refine wpS_loop I (fun i=>ls.length - i) 0 (by rw[hI];exact⟨by simp [upd],by simp [upd],by simp [upd],Nat.zero_le _,u,.refl _ _ _,by simp only[upd];exact .nil _ _ _⟩) ?_
 intro i σ h' hy
 rw[hI]at hy
 obtain⟨e6,e7,e8,hi,u',st,ho⟩:=hy
 by_cases hlt:i<ls.length
 ·skip
  obtain⟨x,hs⟩: ∃x,ls[i]? =some x:=⟨ls[i],by simp [hlt]⟩
  obtain⟨pb,po,rfl,hpb,hpu,hpz,hpr⟩:=(hl.mono st.ge).row i x hs
  have hprs:=hpr
  rw[rep_literal]at hpr
  obtain⟨pv,hpr,hpv⟩:=hpr
  obtain⟨pva,pvc,rfl,r1,r2⟩:=hpv.sl
  have hcs:hvs h' pb (po+i*Rep.sz Literal) (Rep.sz Literal)= #[.int .i64 x.1,str x.2.1.1,.slice pva x.2.1.2.1.length pvc,.int .i64 x.2.1.2.2,.int .i64 x.2.2.1,.int .i64 x.2.2.2.1.1,.int .i64 x.2.2.2.1.2.1,str x.2.2.2.1.2.2.1,.int .i64 x.2.2.2.1.2.2.2,.int .i64 x.2.2.2.2.1.1,.int .i64 x.2.2.2.2.1.2.1,str x.2.2.2.2.1.2.2.1,.int .i64 x.2.2.2.2.1.2.2.2,.int .i64 x.2.2.2.2.2].toList:=by rw[hpr];rfl
  rw[hcs]at hprs
  simp only[Term.enc,sz_literal,hvs_14,List.cons_append,List.nil_append,List.cons.injEq,and_true]at hpr hpu hpz
  obtain⟨p0,p1,p2,p3,p4,p5,p6,p7,p8,p9,p10,p11,p12,p13⟩:=hpr
  have sp:=Step.push0 S0 u' h' #[.int .i64 x.1,str x.2.1.1,.slice pva x.2.1.2.1.length pvc,.int .i64 x.2.1.2.2,.int .i64 x.2.2.1,.int .i64 x.2.2.2.1.1,.int .i64 x.2.2.2.1.2.1,str x.2.2.2.1.2.2.1,.int .i64 x.2.2.2.1.2.2.2,.int .i64 x.2.2.2.2.1.1,.int .i64 x.2.2.2.2.1.2.1,str x.2.2.2.2.1.2.2.1,.int .i64 x.2.2.2.2.1.2.2.2,.int .i64 x.2.2.2.2.2] 119
  have hos:=ho.step0 sp
  have hk0:h.size≤h'.size:=st.ge.sz
  have hsn:restOf (ls.take (i+1))=restOf (ls.take i)++restOf [x]:=by unfold restOf;rw[List.take_add_one,hs,Option.toList_some,List.filter_append]
  have hlen:(restOf (ls.take i)).length≤ls.length:=Nat.le_trans (List.length_filter_le ..) (by rw[List.length_take];exact Nat.min_le_right _ _)
  have hne: ∀b,OwnB (σ 3) b→h.size≤b:=fun b hb=>ho.ge hb
  by_cases hk:x.1=1
  ·have hr:restOf [x]=[]:=by unfold restOf;simp [hk]
   simp(disch:=first|omega|(simp only[zz];try omega;done)) only[↓reduceIte,go_sem,crAsked_L1,e6,e7,e8,hlt,p0,p1,p2,p3,p4,p5,p6,p7,p8,p9,p10,p11,p12,p13,eq_true hk]
   refine⟨i+1,?_,by omega⟩
   rw[hI]
   exact⟨by simp [upd,e6],by simp [upd,e7],by simp [upd],hlt,_,st.trans0 sp,by rw[hsn,hr,List.append_nil];simpa [upd]using hos⟩
  ·have hr:restOf [x]=[x]:=by unfold restOf;simp [hk]
   simp(disch:=first|omega|(simp only[zz];try omega;done)) only[↓reduceIte,go_sem,crAsked_L1,e6,e7,e8,hlt,p0,p1,p2,p3,p4,p5,p6,p7,p8,p9,p10,p11,p12,p13,eq_false hk]
   refine effS_app1p (by simp only[e_psz]) hos (x:=x) (cs:=[.int .i64 x.1,str x.2.1.1,.slice pva x.2.1.2.1.length pvc,.int .i64 x.2.1.2.2,.int .i64 x.2.2.1,.int .i64 x.2.2.2.1.1,.int .i64 x.2.2.2.1.2.1,str x.2.2.2.1.2.2.1,.int .i64 x.2.2.2.1.2.2.2,.int .i64 x.2.2.2.2.1.1,.int .i64 x.2.2.2.2.1.2.1,str x.2.2.2.2.1.2.2.1,.int .i64 x.2.2.2.2.1.2.2.2,.int .i64 x.2.2.2.2.2]) (Rep.mono sp.ge hprs) rfl rfl (by simp only[e_psz];omega) (by omega) fun a n c u3 h3 ho3 s3=>⟨zz0,?_⟩
   simp(disch:=first|omega|(simp only[zz];try omega;done)) only[↓reduceIte,go_sem,e8]
   refine⟨i+1,?_,by omega⟩
   rw[hI]
   exact⟨by simp [upd,e6],by simp [upd,e7],by simp [upd],hlt,u3,(st.trans0 sp).trans s3 (fun b hb hB=>by have:=hne b hB;omega),by rw[hsn,hr];simpa [upd]using ho3⟩
 ·obtain rfl:i=ls.length:=by omega
  rw[List.take_length]at ho
  have hbf:bulkL (restOf ls)≤1048576:=Nat.le_trans (bulk_filter ls) hbk
  simp(disch:=first|omega|(simp only[zz];try omega;done)) only[↓reduceIte,go_sem,crAsked_L1,e7,e8]
  refine effS_call ⟨rfl,u',_,_,rfl,ho.isSl,hbf,fun u3 h3 w s3 hw=>⟨zz0,?_⟩⟩
  simp(disch:=first|omega|(simp only[zz];try omega;done)) only[↓reduceIte,go_sem]
  exact hK _ _ _ (st.trans0 s3) (by show IsSl _ _ _ (ls.flatMap askL);rw[←ask_rest];exact hw)
def G_crUnb:Ctr:=fun f vs h K _=>f=56∧C_vars vs h K
theorem G_crUnb_ok:GOk Tryz.prog G_crUnb:=by
 rintro f vs h K KP ⟨rfl,hC⟩;exact crVars_ok hC
def C_unb(vs:List Value)(h:H)(K:Value→H→Prop):Prop:= ∃(u:U) (v w:Value) (ts:List Term) (ls:List Literal),vs=[v,w]∧IsSl u h v ts∧IsSl u h w ls∧bulkL ls≤1048576∧ts.length≤4194304∧ ∀u' h',Step S0 u h u' h'→K (.int .i64 (looseI (varsF ls) ts 0)) h'
theorem crUnb_ok(hC:C_unb vs h K):HCX Tryz.prog 50 vs h K KP:=by
 obtain⟨u,v,w,ts,ls,rfl,ht,hl,hbk,htl,hK⟩:=hC
 obtain⟨ta,tc,rfl,-,-⟩:=ht.sl
 obtain⟨la,lc,rfl,q1,q2⟩:=hl.sl
 have hm:=mlen'
 refine crUnb_H G_crUnb G_crUnb_ok _ _ ?_
 simp(disch:=first|omega|(simp only[zz];try omega;done)) only[go_sem,crUnb_S,crUnb_E]
 refine effS_mkm u fun u0 h0 s0 hm0=>⟨zz0,?_⟩
 simp(disch:=first|omega|(simp only[zz];try omega;done)) only[↓reduceIte,go_sem]
 refine effS_call ⟨rfl,u0,_,ls,rfl,hl.mono s0.ge,hbk,fun u1 h1 w s1 hw=>⟨zz0,?_⟩⟩
 obtain⟨wa,wc,rfl,w1,w2⟩:=hw.sl
 have hvl:(varsF ls).length≤maxLen:=by omega
 obtain⟨vs,hvs⟩: ∃vs,vs=varsF ls:=⟨_,rfl⟩
 rw[←hvs]at hw hvl hK
 have hvl':vs.length≤9223372036854775807:=hvl
 have hm1:=hm0.step s1 (fun h=>h)
 have st1:=s0.trans0 s1
 clear s0 s1 hm0
 simp(disch:=first|omega|(simp only[zz];try omega;done)) only[↓reduceIte,go_sem,←hvs]
 obtain⟨I,hI⟩: ∃I:Nat→Env→H→Prop,I=fun i σ h'=>σ 0= .slice ta ts.length tc∧σ 5= .map (some h.size)∧σ 12= .slice wa vs.length wc∧σ 13= .int .i64 vs.length∧σ 14= .int .i64 i∧i≤vs.length∧
   ∃u' m n,Step S0 u h u' h'∧IsSl u' h' (.slice wa vs.length wc) vs∧MapB h' h.size m n∧(∀s,m s=if s∈vs.take i then some 1 else none):=⟨_,rfl⟩
 refine wpS_loop I (fun i=>vs.length - i) 0 (by
  rw[hI]
  exact⟨by simp [upd],by simp [upd],by simp [upd],by simp [upd],by simp [upd],Nat.zero_le _,u1,_,_,st1,hw,hm1,fun s=>by simp⟩) ?_
 ·intro i σ h' hy
  rw[hI]at hy
  obtain⟨e0,e5,e12,e13,e14,hi,u',m,n,st,hw,hmb,hms⟩:=hy
  by_cases hlt:i<vs.length
  ·obtain⟨x,hs⟩: ∃x,vs[i]? =some x:=⟨vs[i],by simp [hlt]⟩
   obtain⟨pb,po,rfl,hpb,hpu,hpz,hpr⟩:=hw.row i x hs
   simp only[rep_str,sz_str,hvs_1,List.cons.injEq,and_true]at hpr hpu hpz
   simp(disch:=first|omega|(simp only[zz];try omega;done)) only[↓reduceIte,go_sem,crUnb_L1,e5,e12,e13,e14,hlt,hpr]
   refine effS_mput u' hmb fun h2 s2 hm2=>⟨zz0,?_⟩
   simp(disch:=first|omega|(simp only[zz];try omega;done)) only[↓reduceIte,go_sem,e14]
   refine⟨i+1,?_,by omega⟩
   rw[hI]
   refine⟨by simp [upd,e0],by simp [upd,e5],by simp [upd,e12],by simp [upd,e13],by simp [upd],hlt,u',_,_,st.trans s2 (fun b hb e=>by omega),hw.mono s2.ge,hm2,fun s=> ?_⟩
   unfold putm
   rw[hms]
   by_cases hsx:s=x
   ·subst hsx
    rw[if_pos rfl,if_pos (by rw[List.take_add_one,hs,Option.toList_some];simp)]
   ·rw[if_neg hsx]
    by_cases hin:s∈vs.take i
    ·rw[if_pos hin,if_pos (by rw[List.take_add_one];exact List.mem_append_left _ hin)]
    ·rw[if_neg hin,if_neg (by rw[List.take_add_one,hs,Option.toList_some,List.mem_append,List.mem_singleton];rintro (h|h);exact hin h;exact hsx h)]
  ·obtain rfl:i=vs.length:=by omega
   rw[List.take_length]at hms
   have htl':ts.length≤9223372036854775807:=by omega
   simp(disch:=first|omega|(simp only[zz];try omega;done)) only[↓reduceIte,go_sem,crUnb_L1,e0,e13,e14]
   obtain⟨J,hJ⟩: ∃J:Nat→Env→H→Prop,J=fun j σ h'=>σ 5= .map (some h.size)∧σ 21= .slice ta ts.length tc∧σ 22= .int .i64 ts.length∧σ 23= .int .i64 j∧j≤ts.length∧
     ∃u',Step S0 u h u' h'∧MapB h' h.size m n∧(∀s∈ts.take j,looseB vs s=false):=⟨_,rfl⟩
   refine wpS_loop J (fun j=>ts.length - j) 0 (by
    rw[hJ]
    exact⟨by simp [upd,e5],by simp [upd],by simp [upd],by simp [upd],Nat.zero_le _,u',st,hmb,by simp⟩) ?_
   clear hI I e0 e5 e12 e13 e14 hw st1 hm1
   intro j σ1 h2 hy
   rw[hJ]at hy
   obtain⟨e5,e21,e22,e23,hj,u2,st,hmb,hno⟩:=hy
   by_cases hlt:j<ts.length
   ·obtain⟨t,hs⟩: ∃t,ts[j]? =some t:=⟨ts[j],by simp [hlt]⟩
    obtain⟨tb,to,rfl,htb,htu,htz,htr⟩:=(ht.mono st.ge).row j t hs
    rw[rep_term]at htr
    simp only[Term.enc,sz_term,hvs_4,List.cons.injEq,and_true]at htr htu htz
    obtain⟨t0,t1,t2,t3⟩:=htr
    have sp:=Step.push0 S0 u2 h2 #[.int .i64 t.1,.int .i64 t.2.1,str t.2.2.1,.int .i64 t.2.2.2] 56
    have hmp:=hmb.step sp (fun h=>h)
    have next: ∀(σ':Env) (u':U) (h':H),σ' 5=σ1 5→σ' 21=σ1 21→σ' 22=σ1 22→σ' 23= .int .i64 ((j:Int)+1)→Step S0 u2 h2 u' h'→looseB vs t=false→ ∃y,J y σ' h'∧ts.length - y<ts.length - j:=fun σ' u' h' g5 g21 g22 g23 sx hb=>by
     refine⟨j+1,?_,by omega⟩
     rw[hJ]
     exact⟨by rw[g5,e5],by rw[g21,e21],by rw[g22,e22],g23,hlt,u',st.trans0 sx,hmb.step sx (fun h=>h),none_upto hno hs hb⟩
    have done:looseB vs t=true→looseI vs ts 0=j:=fun hb=>by have:=(looseI_some (k:=0) hno hs hb).1;omega
    by_cases hk4:t.1=4
    ·by_cases h95:t.2.2.1=[95]
     ·have hb:looseB vs t=true:=by unfold looseB;simp [hk4,h95]
      rw[done hb]at hK
      simp(disch:=first|omega|(simp only[zz];try omega;done)) only[↓reduceIte,go_sem,crUnb_L2,e21,e22,e23,hlt,t0,t1,t2,t3,eq_true hk4,eq_true h95]
      exact hK _ _ (st.trans0 sp)
     ·simp(disch:=first|omega|(simp only[zz];try omega;done)) only[↓reduceIte,go_sem,crUnb_L2,e5,e21,e22,e23,hlt,t0,t1,t2,t3,eq_true hk4,eq_false h95]
      refine effS_look hmp ⟨zz0,?_⟩
      rw[hms]
      by_cases hin:t.2.2.1∈vs
      ·have hb:looseB vs t=false:=by unfold looseB;simp [hk4,h95,hin]
       rw[if_pos hin]
       simp only[lookV,Option.isSome_some,Option.getD_some]
       simp(disch:=first|omega|(simp only[zz];try omega;done)) only[↓reduceIte,go_sem,e23]
       exact next _ _ _ (by simp [upd]) (by simp [upd]) (by simp [upd]) (by simp [upd]) sp hb
      ·have hb:looseB vs t=true:=by unfold looseB;simp [hk4,h95,hin]
       rw[done hb]at hK
       rw[if_neg hin]
       simp only[lookV,Option.isSome_none,Option.getD_none]
       simp(disch:=first|omega|(simp only[zz];try omega;done)) only[↓reduceIte,go_sem]
       exact hK _ _ (st.trans0 sp)
    ·have hb:looseB vs t=false:=by unfold looseB;simp [hk4]
     by_cases h95:t.2.2.1=[95]
     ·simp(disch:=first|omega|(simp only[zz];try omega;done)) only[↓reduceIte,go_sem,crUnb_L2,e21,e22,e23,hlt,t0,t1,t2,t3,eq_false hk4,eq_true h95]
      exact next _ _ _ (by simp [upd]) (by simp [upd]) (by simp [upd]) (by simp [upd]) sp hb
     ·simp(disch:=first|omega|(simp only[zz];try omega;done)) only[↓reduceIte,go_sem,crUnb_L2,e21,e22,e23,hlt,t0,t1,t2,t3,eq_false hk4,eq_false h95]
      exact next _ _ _ (by simp [upd]) (by simp [upd]) (by simp [upd]) (by simp [upd]) sp hb
   ·obtain rfl:j=ts.length:=by omega
    rw[List.take_length]at hno
    rw[(looseI_none hno).1]at hK
    simp(disch:=first|omega|(simp only[zz];try omega;done)) only[↓reduceIte,go_sem,crUnb_L2,e22,e23]
    exact hK _ _ st
end Go.Proofs.YtmjinnbdnpedcaaGreat
