/- What is well formed: lists, atoms, literals, clauses, programs; the law. -/
import Derived.Test.YtmjinnbdnpedcaaGreatWell
namespace Go.Proofs.YtmjinnbdnpedcaaGreat
open Go Go.Ev Edict
variable {vs:List Value} {h:H} {K:Value→H→Prop} {KP:List PanicEntry→H→Prop}
def C_first{α:Type} [Rep α](g:FuncId)(f:α→Int)(vs:List Value)(h:H)(K:Value→H→Prop):Prop:= ∃(u:U) (v:Value) (l:List α),vs=[v,.func (.func g) #[] #[]]∧IsSl u h v l∧(∀x∈l,Rep.wf x)∧ ∀u' h',Step S0 u h u' h'→K (.int .i64 (firstW f l)) h'
def G_prFirstT:Ctr:=fun f vs h K _=>(f=89∧C_data (vI termW) vs h K)
theorem G_prFirstT_ok:GOk Tryz.prog G_prFirstT:=by
 rintro f vs h K KP (⟨rfl,hC⟩)
 exact prWellTerm_ok hC
theorem prFirstT_ok(hC:C_first 89 termW vs h K):HCX Tryz.prog 88 vs h K KP:=by
 obtain⟨u,v,l,rfl,hl,hw,hK⟩:=hC
 obtain⟨la,lc,rfl,q1,q2⟩:=hl.sl
 have hm:=mlen
 refine prFirstT_H G_prFirstT G_prFirstT_ok _ _ ?_
 simp(disch:=first|omega|(simp only[zz];try omega;done)) only[↓reduceIte,go_sem,prFirstT_S,prFirstT_E]
 obtain⟨I,hI⟩: ∃I:Nat→Env→H→Prop,I=fun i σ h'=>σ 1= .func (.func 89) #[] #[]∧σ 8= .slice la l.length lc∧σ 9= .int .i64 l.length∧σ 10= .int .i64 i∧i≤l.length∧firstW termW l=firstW termW (l.drop i)∧ ∃u',Step S0 u h u' h':=⟨_,rfl⟩
 refine wpS_loop I (fun i=>l.length - i) 0 (by rw[hI];exact⟨by simp [upd],by simp [upd],by simp [upd],by simp [upd],Nat.zero_le _,rfl,u,.refl _ _ _⟩) ?_
 intro i σ h' hy
 rw[hI]at hy
 obtain⟨e1,e8,e9,e10,hi,hf,u',st⟩:=hy
 by_cases hlt:i<l.length
 ·obtain⟨x,hs⟩: ∃x,l[i]? =some x:=⟨l[i],by simp [hlt]⟩
  obtain⟨pb,po,rfl,hpb,hpu,hpz,hpr⟩:=(hl.mono st.ge).row i x hs
  rw[rep_term]at hpr
  simp only[Term.enc,sz_term,hvs_4,List.cons.injEq,and_true]at hpr hpu hpz
  obtain⟨p0,p1,p2,p3⟩:=hpr
  simp(disch:=first|omega|(simp only[zz];try omega;done)) only[↓reduceIte,go_sem,prFirstT_L1,e1,e8,e9,e10,hlt,p0,p1,p2,p3]
  refine effS_callv ⟨rfl,_,x,_,rfl,(show Rep.rep (ub u' h'.size 0) _ x _ by rw[rep_term];rfl),hw x (List.mem_of_getElem? hs),fun u2 h2 s2=>⟨zz0,?_⟩⟩
  have s12:=Step.trans0 (S:=S0) (u:=u') (h:=h') (by repeat (first|exact Step.refl _ _ _|assumption|apply Step.pushR)) s2
  rw[firstW_drop hs]at hf
  simp only[vI]
  by_cases h0:termW x=0
  ·rw[if_pos h0]at hf
   simp(disch:=first|omega|(simp only[zz];try omega;done)) only[↓reduceIte,go_sem,e10,h0]
   refine⟨i+1,?_,by omega⟩
   rw[hI]
   exact⟨by simp [upd,e1],by simp [upd,e8],by simp [upd,e9],by simp [upd],hlt,hf,u2,st.trans0 s12⟩
  ·rw[if_neg h0]at hf
   rw[hf]at hK
   simp(disch:=first|omega|(simp only[zz];try omega;done)) only[↓reduceIte,go_sem,eq_false h0]
   exact hK _ _ (st.trans0 s12)
 ·obtain rfl:i=l.length:=by omega
  rw[List.drop_length]at hf
  rw[hf]at hK
  simp(disch:=first|omega|(simp only[zz];try omega;done)) only[↓reduceIte,go_sem,prFirstT_L1,e9,e10]
  exact hK _ _ st
def G_prWellAtom:Ctr:=fun f vs h K _=>(f=87∧C_str nameB vs h K)∨(f=88∧C_first 89 termW vs h K)
theorem G_prWellAtom_ok:GOk Tryz.prog G_prWellAtom:=by
 rintro f vs h K KP (⟨rfl,hC⟩|⟨rfl,hC⟩)
 ·exact symIsName_ok hC
 ·exact prFirstT_ok hC
theorem prWellAtom_ok(hC:C_data (vI atomW) vs h K):HCX Tryz.prog 78 vs h K KP:=by
 obtain⟨u,a,l,rfl,hr,⟨wn,⟨-,wa⟩,-⟩,hK⟩:=hC
 have wn':a.1.length≤9223372036854775807:=wn
 rw[rep_atom]at hr
 obtain⟨v,rfl,hv⟩:=hr
 obtain⟨va,vc,rfl,q1,q2⟩:=hv.sl
 have hm:=mlen
 simp only[vI,atomW]at hK
 refine prWellAtom_H G_prWellAtom G_prWellAtom_ok _ ?_
 simp(disch:=first|omega|(simp only[zz];try omega;done)) only[↓reduceIte,go_sem,prWellAtom_S,prWellAtom_E]
 refine effS_call (.inl ⟨rfl,ub u h.size 0,a.1,rfl,wn',fun u2 h2 s2=>⟨zz0,?_⟩⟩)
 have s02:=Step.trans0 (S:=S0) (u:=u) (h:=h) (by repeat (first|exact Step.refl _ _ _|assumption|apply Step.pushR)) s2
 have B0:Blk u2 h2 h.size [str a.1,.slice va a.2.1.length vc,.int .i64 a.2.2]:=Blk.step0 (Blk.mk (by simp only[e_psz];omega) (by simp(disch:=first|omega|(simp only[zz];try omega;done)) only[go_sem]) (by simp(disch:=first|omega|(simp only[zz];try omega;done)) only[go_sem]) (by repeat (first|(refine ub_at ?_;simp only[];done)|apply ub_zero)) (by simp(disch:=first|omega|(simp only[zz];try omega;done)) only[go_sem])) s2
 cases hn:nameB a.1 with
 |false=>
  rw[hn]at hK
  simp(disch:=first|omega|(simp only[zz];try omega;done)) only[↓reduceIte,go_sem]
  exact hK _ _ s02
 |true=>
  rw[hn]at hK
  simp only[if_true]at hK
  by_cases h8:8<a.2.1.length
  ·rw[if_pos h8]at hK
   simp(disch:=first|omega|(simp only[zz];try omega;done)) only[↓reduceIte,go_sem,B0.at,B0.2.1,eq_true (show(8:Int)<(a.2.1.length:Int) by omega)]
   exact hK _ _ s02
  ·rw[if_neg h8]at hK
   simp(disch:=first|omega|(simp only[zz];try omega;done)) only[↓reduceIte,go_sem,B0.at,B0.2.1,eq_false (show¬(8:Int)<(a.2.1.length:Int) by omega)]
   refine effS_call (.inr ⟨rfl,u2,_,a.2.1,rfl,hv.mono s02.ge,wa,fun u3 h3 s3=>⟨zz0,?_⟩⟩)
   simp(disch:=first|omega|(simp only[zz];try omega;done)) only[↓reduceIte,go_sem]
   exact hK _ _ (s02.trans0 s3)
def G_r4atom:Ctr:=fun f vs h K _=>(f=82∧C_str nameB vs h K)∨(f=83∧C_data (vI termW) vs h K)
theorem G_r4atom_ok:GOk Tryz.prog G_r4atom:=by
 rintro f vs h K KP (⟨rfl,hC⟩|⟨rfl,hC⟩)
 ·exact r1IsName_ok hC
 ·exact r4term_ok hC
theorem r4atom_ok(hC:C_data (vI atomW) vs h K):HCX Tryz.prog 72 vs h K KP:=by
 obtain⟨u,a,l,rfl,hr,⟨wn,⟨-,wa⟩,-⟩,hK⟩:=hC
 have wn':a.1.length≤9223372036854775807:=wn
 rw[rep_atom]at hr
 obtain⟨v,rfl,hv⟩:=hr
 obtain⟨va,vc,rfl,q1,q2⟩:=hv.sl
 have hm:=mlen
 simp only[vI,atomW]at hK
 refine r4atom_H G_r4atom G_r4atom_ok _ ?_
 simp(disch:=first|omega|(simp only[zz];try omega;done)) only[↓reduceIte,go_sem,r4atom_S,r4atom_E]
 refine effS_call (.inl ⟨rfl,ub u h.size 0,a.1,rfl,wn',fun u2 h2 s2=>⟨zz0,?_⟩⟩)
 have s02:=Step.trans0 (S:=S0) (u:=u) (h:=h) (by repeat (first|exact Step.refl _ _ _|assumption|apply Step.pushR)) s2
 have B0:Blk u2 h2 h.size [str a.1,.slice va a.2.1.length vc,.int .i64 a.2.2]:=Blk.step0 (Blk.mk (by simp only[e_psz];omega) (by simp(disch:=first|omega|(simp only[zz];try omega;done)) only[go_sem]) (by simp(disch:=first|omega|(simp only[zz];try omega;done)) only[go_sem]) (by repeat (first|(refine ub_at ?_;simp only[];done)|apply ub_zero)) (by simp(disch:=first|omega|(simp only[zz];try omega;done)) only[go_sem])) s2
 cases hn:nameB a.1 with
 |false=>
  rw[hn]at hK
  simp(disch:=first|omega|(simp only[zz];try omega;done)) only[↓reduceIte,go_sem]
  exact hK _ _ s02
 |true=>
  rw[hn]at hK
  simp only[if_true]at hK
  by_cases h8:8<a.2.1.length
  ·rw[if_pos h8]at hK
   simp(disch:=first|omega|(simp only[zz];try omega;done)) only[↓reduceIte,go_sem,B0.at,B0.2.1,eq_true (show(8:Int)<(a.2.1.length:Int) by omega)]
   exact hK _ _ s02
  ·rw[if_neg h8]at hK
   simp(disch:=first|omega|(simp only[zz];try omega;done)) only[↓reduceIte,go_sem,B0.at,B0.2.1,eq_false (show¬(8:Int)<(a.2.1.length:Int) by omega)]
   obtain⟨I,hI⟩: ∃I:Nat→Env→H→Prop,I=fun i σ h'=>σ 1= .pointer (some ⟨h.size,0,none⟩)∧σ 3= .int .i64 i∧i≤a.2.1.length∧firstW termW a.2.1=firstW termW (a.2.1.drop i)∧ ∃u',Step S0 u h u' h'∧Blk u' h' h.size [str a.1,.slice va a.2.1.length vc,.int .i64 a.2.2]:=⟨_,rfl⟩
   refine wpS_loop I (fun i=>a.2.1.length - i) 0 (by rw[hI];exact⟨by simp [upd],by simp [upd],Nat.zero_le _,rfl,u2,s02,B0⟩) ?_
   intro i σ h' hy
   rw[hI]at hy
   obtain⟨e1,e3,hi,hf,u',st,B⟩:=hy
   by_cases hlt:i<a.2.1.length
   ·obtain⟨x,hs⟩: ∃x,a.2.1[i]? =some x:=⟨a.2.1[i],by simp [hlt]⟩
    obtain⟨pb,po,rfl,hpb,hpu,hpz,hpr⟩:=(hv.mono st.ge).row i x hs
    rw[rep_term]at hpr
    simp only[Term.enc,sz_term,hvs_4,List.cons.injEq,and_true]at hpr hpu hpz
    obtain⟨p0,p1,p2,p3⟩:=hpr
    simp(disch:=first|omega|(simp only[zz];try omega;done)) only[↓reduceIte,go_sem,r4atom_L1,e1,e3,B.at,B.2.1,hlt,p0,p1,p2,p3]
    refine effS_call (.inr ⟨rfl,u',x,_,rfl,by rw[rep_term];rfl,wa x (List.mem_of_getElem? hs),fun u3 h3 s3=>⟨zz0,?_⟩⟩)
    rw[firstW_drop hs]at hf
    simp only[vI]
    by_cases h0:termW x=0
    ·rw[if_pos h0]at hf
     simp(disch:=first|omega|(simp only[zz];try omega;done)) only[↓reduceIte,go_sem,e3,h0]
     refine⟨i+1,?_,by omega⟩
     rw[hI]
     exact⟨by simp [upd,e1],by simp [upd],hlt,hf,u3,st.trans0 s3,B.step0 s3⟩
    ·rw[if_neg h0]at hf
     rw[hf]at hK
     simp(disch:=first|omega|(simp only[zz];try omega;done)) only[↓reduceIte,go_sem,eq_false h0]
     exact hK _ _ (st.trans0 s3)
   ·obtain rfl:i=a.2.1.length:=by omega
    rw[List.drop_length]at hf
    rw[hf]at hK
    simp(disch:=first|omega|(simp only[zz];try omega;done)) only[↓reduceIte,go_sem,r4atom_L1,e1,e3,B.at,B.2.1]
    exact hK _ _ st
def G_prWellLiteral:Ctr:=fun f vs h K _=>(f=90∧C_data (vB zeroB) vs h K)∨(f=78∧C_data (vI atomW) vs h K)∨(f=88∧C_first 89 termW vs h K)
theorem G_prWellLiteral_ok:GOk Tryz.prog G_prWellLiteral:=by
 rintro f vs h K KP (⟨rfl,hC⟩|⟨rfl,hC⟩|⟨rfl,hC⟩)
 ·exact prBare_ok hC
 ·exact prWellAtom_ok hC
 ·exact prFirstT_ok hC
def G_r4literal:Ctr:=fun f vs h K _=>(f=84∧C_data (vB zeroB) vs h K)∨(f=72∧C_data (vI atomW) vs h K)∨(f=83∧C_data (vI termW) vs h K)
theorem G_r4literal_ok:GOk Tryz.prog G_r4literal:=by
 rintro f vs h K KP (⟨rfl,hC⟩|⟨rfl,hC⟩|⟨rfl,hC⟩)
 ·exact r4zero_ok hC
 ·exact r4atom_ok hC
 ·exact r4term_ok hC
theorem prWellLiteral_ok(hC:C_data (vI litW) vs h K):HCX Tryz.prog 80 vs h K KP:=by
 obtain⟨u,a,l,rfl,hr,⟨-,wat,-,wl,wr,-⟩,hK⟩:=hC
 rw[rep_literal]at hr
 obtain⟨v,rfl,hv⟩:=hr
 obtain⟨va,vc,rfl,q1,q2⟩:=hv.sl
 have hm:=mlen
 simp only[vI,litW]at hK
 refine prWellLiteral_H G_prWellLiteral G_prWellLiteral_ok _ ?_
 simp only[Term.enc,List.cons_append,List.nil_append]
 by_cases hk:a.1=1∨a.1=2
 ·rw[if_pos hk]at hK
  by_cases ho:a.2.2.1=0
  ·simp only[eq_true ho,true_and]at hK
   have two: ∀R:Prop,(∀f1:(a.1=1)=True∨((a.1=1)=False∧(a.1=2)=True),R)→R:=fun R hR=>by
    rcases hk with h|h
    ·exact hR (.inl (eq_true h))
    ·exact hR (.inr ⟨eq_false (by omega),eq_true h⟩)
   have start:wpS G_prWellLiteral prWellLiteral_S (retQ prWellLiteral_E (callK K KP)) (envOf 0 [.agg (#[.int .i64 a.1,str a.2.1.1,.slice va a.2.1.2.1.length vc,.int .i64 a.2.1.2.2,.int .i64 a.2.2.1,.int .i64 a.2.2.2.1.1,.int .i64 a.2.2.2.1.2.1,str a.2.2.2.1.2.2.1,.int .i64 a.2.2.2.1.2.2.2,.int .i64 a.2.2.2.2.1.1,.int .i64 a.2.2.2.2.1.2.1,str a.2.2.2.2.1.2.2.1,.int .i64 a.2.2.2.2.1.2.2.2,.int .i64 a.2.2.2.2.2])] env0) h:=by
    rcases hk with hk1|hk2
    all_goals
     first
     |simp(disch:=first|omega|(simp only[zz];try omega;done)) only[↓reduceIte,go_sem,prWellLiteral_S,prWellLiteral_E,eq_true hk1,eq_true ho]
     |simp(disch:=first|omega|(simp only[zz];try omega;done)) only[↓reduceIte,go_sem,prWellLiteral_S,prWellLiteral_E,eq_false (show¬a.1=1 by omega),eq_true hk2,eq_true ho]
    all_goals
     refine effS_call (.inl ⟨rfl,ub u h.size 0,a.2.2.2.1,_,rfl,by rw[rep_term];rfl,wl,fun u2 h2 s2=>⟨zz0,?_⟩⟩)
     have s02:=Step.trans0 (S:=S0) (u:=u) (h:=h) (by repeat (first|exact Step.refl _ _ _|assumption|apply Step.pushR)) s2
     have B0:Blk u2 h2 h.size [.int .i64 a.1,str a.2.1.1,.slice va a.2.1.2.1.length vc,.int .i64 a.2.1.2.2,.int .i64 a.2.2.1,.int .i64 a.2.2.2.1.1,.int .i64 a.2.2.2.1.2.1,str a.2.2.2.1.2.2.1,.int .i64 a.2.2.2.1.2.2.2,.int .i64 a.2.2.2.2.1.1,.int .i64 a.2.2.2.2.1.2.1,str a.2.2.2.2.1.2.2.1,.int .i64 a.2.2.2.2.1.2.2.2,.int .i64 a.2.2.2.2.2]:=Blk.step0 (Blk.mk (by simp only[e_psz];omega) (by simp(disch:=first|omega|(simp only[zz];try omega;done)) only[go_sem]) (by simp(disch:=first|omega|(simp only[zz];try omega;done)) only[go_sem]) (by repeat (first|(refine ub_at ?_;simp only[];done)|apply ub_zero)) (by simp(disch:=first|omega|(simp only[zz];try omega;done)) only[go_sem])) s2
     have b0l:=B0.1
     simp only[vB]
     cases hz:zeroB a.2.2.2.1 with
     |false=>
      rw[hz]at hK
      simp only[Bool.false_eq_true,false_and,if_false]at hK
      simp(disch:=first|omega|(simp only[zz];try omega;done)) only[↓reduceIte,go_sem,B0.at]
      exact hK _ _ s02
     |true=>
      rw[hz]at hK
      simp only[true_and]at hK
      simp(disch:=first|omega|(simp only[zz];try omega;done)) only[↓reduceIte,go_sem,B0.at,B0.2.1]
      refine effS_call (.inl ⟨rfl,u2,a.2.2.2.2.1,_,rfl,by rw[rep_term];rfl,wr,fun u3 h3 s3=>⟨zz0,?_⟩⟩)
      have s03:=s02.trans0 s3
      have B1:=B0.step0 s3
      simp only[vB]
      cases hy:zeroB a.2.2.2.2.1 with
      |false=>
       rw[hy]at hK
       simp only[Bool.false_eq_true,if_false]at hK
       simp(disch:=first|omega|(simp only[zz];try omega;done)) only[↓reduceIte,go_sem]
       exact hK _ _ s03
      |true=>
       rw[hy]at hK
       simp only[if_true]at hK
       simp(disch:=first|omega|(simp only[zz];try omega;done)) only[↓reduceIte,go_sem,B1.at,B1.2.1]
       refine effS_call (.inr (.inl ⟨rfl,u3,a.2.1,_,rfl,by rw[rep_atom];exact⟨_,rfl,hv.mono s03.ge⟩,wat,fun u4 h4 s4=>⟨zz0,?_⟩⟩))
       simp(disch:=first|omega|(simp only[zz];try omega;done)) only[↓reduceIte,go_sem,vI]
       exact hK _ _ (s03.trans0 s4)
   exact start
  ·simp only[eq_false ho,false_and,if_false]at hK
   rcases hk with hk1|hk2
   ·simp(disch:=first|omega|(simp only[zz];try omega;done)) only[↓reduceIte,go_sem,prWellLiteral_S,prWellLiteral_E,eq_true hk1,eq_false ho]
    exact hK _ _ (by repeat (first|exact Step.refl _ _ _|assumption|apply Step.pushR))
   ·simp(disch:=first|omega|(simp only[zz];try omega;done)) only[↓reduceIte,go_sem,prWellLiteral_S,prWellLiteral_E,eq_false (show¬a.1=1 by omega),eq_true hk2,eq_false ho]
    exact hK _ _ (by repeat (first|exact Step.refl _ _ _|assumption|apply Step.pushR))
 ·rw[if_neg hk]at hK
  have k1:=eq_false (show¬a.1=1 by omega)
  have k2:=eq_false (show¬a.1=2 by omega)
  by_cases hk3:a.1=3
  ·rw[if_pos hk3]at hK
   unfold testW at hK
   by_cases hop:a.2.2.1<1
   ·rw[if_pos (.inl hop)]at hK
    simp(disch:=first|omega|(simp only[zz];try omega;done)) only[↓reduceIte,go_sem,prWellLiteral_S,prWellLiteral_E,k1,k2,eq_true hk3,eq_true hop]
    exact hK _ _ (by repeat (first|exact Step.refl _ _ _|assumption|apply Step.pushR))
   by_cases hop6:6<a.2.2.1
   ·rw[if_pos (.inr (.inl hop6))]at hK
    simp(disch:=first|omega|(simp only[zz];try omega;done)) only[↓reduceIte,go_sem,prWellLiteral_S,prWellLiteral_E,k1,k2,eq_true hk3,eq_false hop,eq_true hop6]
    exact hK _ _ (by repeat (first|exact Step.refl _ _ _|assumption|apply Step.pushR))
   by_cases hpr:a.2.1.1=[]
   ·by_cases har:a.2.1.2.1=[]
    ·rw[if_neg (by rintro (h|h|h|h);exact hop h;exact hop6 h;exact h hpr;exact h har)]at hK
     have hal:a.2.1.2.1.length=0:=by rw[har];rfl
     simp(disch:=first|omega|(simp only[zz];try omega;done)) only[↓reduceIte,go_sem,prWellLiteral_S,prWellLiteral_E,k1,k2,eq_true hk3,eq_false hop,eq_false hop6,eq_true hpr,eq_false (show¬(0:Int)<(a.2.1.2.1.length:Int) by omega)]
     have hsl:=(Own.made (k:=0) (α:=Term) (ub u h.size 0) (h.push (.cells #[.int .i64 a.1,str a.2.1.1,.slice va a.2.1.2.1.length vc,.int .i64 a.2.1.2.2,.int .i64 a.2.2.1,.int .i64 a.2.2.2.1.1,.int .i64 a.2.2.2.1.2.1,str a.2.2.2.1.2.2.1,.int .i64 a.2.2.2.1.2.2.2,.int .i64 a.2.2.2.2.1.1,.int .i64 a.2.2.2.2.1.2.1,str a.2.2.2.2.1.2.2.1,.int .i64 a.2.2.2.2.1.2.2.2,.int .i64 a.2.2.2.2.2] 119)) (Nat.zero_le _) 56 [a.2.2.2.1,a.2.2.2.2.1] (Term.enc a.2.2.2.1++Term.enc a.2.2.2.2.1) rfl (by simp only[List.length_cons,List.length_nil];decide) (fun i x hx=>by
      match i with
      |0=>cases hx;rw[rep_term];rfl
      |1=>cases hx;rw[rep_term];rfl
      |i+2=>simp at hx)).isSl
     have sp:=(Step.push0 S0 u h #[.int .i64 a.1,str a.2.1.1,.slice va a.2.1.2.1.length vc,.int .i64 a.2.1.2.2,.int .i64 a.2.2.1,.int .i64 a.2.2.2.1.1,.int .i64 a.2.2.2.1.2.1,str a.2.2.2.1.2.2.1,.int .i64 a.2.2.2.1.2.2.2,.int .i64 a.2.2.2.2.1.1,.int .i64 a.2.2.2.2.1.2.1,str a.2.2.2.2.1.2.2.1,.int .i64 a.2.2.2.2.1.2.2.2,.int .i64 a.2.2.2.2.2] 119).trans0 (Step.push S0 (ub u h.size 0) (h.push (.cells #[.int .i64 a.1,str a.2.1.1,.slice va a.2.1.2.1.length vc,.int .i64 a.2.1.2.2,.int .i64 a.2.2.1,.int .i64 a.2.2.2.1.1,.int .i64 a.2.2.2.1.2.1,str a.2.2.2.1.2.2.1,.int .i64 a.2.2.2.1.2.2.2,.int .i64 a.2.2.2.2.1.1,.int .i64 a.2.2.2.2.1.2.1,str a.2.2.2.2.1.2.2.1,.int .i64 a.2.2.2.2.1.2.2.2,.int .i64 a.2.2.2.2.2] 119)) (Term.enc a.2.2.2.1++Term.enc a.2.2.2.2.1).toArray 56 (2*4))
     simp only[e_psz,Term.enc,List.cons_append,List.nil_append,List.length_cons,List.length_nil,Nat.zero_add,Nat.reduceAdd,Nat.reduceMul,sz_term]at hsl sp
     refine effS_call (.inr (.inr ⟨rfl,_,_,[a.2.2.2.1,a.2.2.2.2.1],rfl,hsl,(fun x hx=>by
      rcases List.mem_cons.1 hx with rfl|hx
      ·exact wl
      ·rw[List.mem_singleton]at hx;subst hx;exact wr),fun u3 h3 s3=>⟨zz0,?_⟩⟩))
     have hw2:firstW termW [a.2.2.2.1,a.2.2.2.2.1]=if termW a.2.2.2.1=0 then termW a.2.2.2.2.1 else termW a.2.2.2.1:=by
      simp only[firstW]
      by_cases h0:termW a.2.2.2.2.1=0
      ·rw[if_pos h0,h0]
      ·rw[if_neg h0]
     rw[←hw2]at hK
     simp(disch:=first|omega|(simp only[zz];try omega;done)) only[↓reduceIte,go_sem]
     exact hK _ _ (sp.trans0 s3)
    ·have hal:0<a.2.1.2.1.length:=List.length_pos_iff.2 har
     rw[if_pos (.inr (.inr (.inr har)))]at hK
     simp(disch:=first|omega|(simp only[zz];try omega;done)) only[↓reduceIte,go_sem,prWellLiteral_S,prWellLiteral_E,k1,k2,eq_true hk3,eq_false hop,eq_false hop6,eq_true hpr,eq_true (show(0:Int)<(a.2.1.2.1.length:Int) by omega)]
     exact hK _ _ (by repeat (first|exact Step.refl _ _ _|assumption|apply Step.pushR))
   ·rw[if_pos (.inr (.inr (.inl hpr)))]at hK
    simp(disch:=first|omega|(simp only[zz];try omega;done)) only[↓reduceIte,go_sem,prWellLiteral_S,prWellLiteral_E,k1,k2,eq_true hk3,eq_false hop,eq_false hop6,eq_false hpr]
    exact hK _ _ (by repeat (first|exact Step.refl _ _ _|assumption|apply Step.pushR))
  ·rw[if_neg hk3]at hK
   simp(disch:=first|omega|(simp only[zz];try omega;done)) only[↓reduceIte,go_sem,prWellLiteral_S,prWellLiteral_E,k1,k2,eq_false hk3]
   exact hK _ _ (by repeat (first|exact Step.refl _ _ _|assumption|apply Step.pushR))
theorem r4literal_ok(hC:C_data (vI litW) vs h K):HCX Tryz.prog 73 vs h K KP:=by
 obtain⟨u,a,l,rfl,hr,⟨-,wat,-,wl,wr,-⟩,hK⟩:=hC
 rw[rep_literal]at hr
 obtain⟨v,rfl,hv⟩:=hr
 obtain⟨va,vc,rfl,q1,q2⟩:=hv.sl
 have hm:=mlen
 simp only[vI,litW]at hK
 refine r4literal_H G_r4literal G_r4literal_ok _ ?_
 simp only[Term.enc,List.cons_append,List.nil_append]
 by_cases hk:a.1=1∨a.1=2
 ·rw[if_pos hk]at hK
  by_cases ho:a.2.2.1=0
  ·simp only[eq_true ho,true_and]at hK
   have two: ∀R:Prop,(∀f1:(a.1=1)=True∨((a.1=1)=False∧(a.1=2)=True),R)→R:=fun R hR=>by
    rcases hk with h|h
    ·exact hR (.inl (eq_true h))
    ·exact hR (.inr ⟨eq_false (by omega),eq_true h⟩)
   have start:wpS G_r4literal r4literal_S (retQ r4literal_E (callK K KP)) (envOf 0 [.agg (#[.int .i64 a.1,str a.2.1.1,.slice va a.2.1.2.1.length vc,.int .i64 a.2.1.2.2,.int .i64 a.2.2.1,.int .i64 a.2.2.2.1.1,.int .i64 a.2.2.2.1.2.1,str a.2.2.2.1.2.2.1,.int .i64 a.2.2.2.1.2.2.2,.int .i64 a.2.2.2.2.1.1,.int .i64 a.2.2.2.2.1.2.1,str a.2.2.2.2.1.2.2.1,.int .i64 a.2.2.2.2.1.2.2.2,.int .i64 a.2.2.2.2.2])] env0) h:=by
    rcases hk with hk1|hk2
    all_goals
     first
     |simp(disch:=first|omega|(simp only[zz];try omega;done)) only[↓reduceIte,go_sem,r4literal_S,r4literal_E,eq_true hk1,eq_true ho]
     |simp(disch:=first|omega|(simp only[zz];try omega;done)) only[↓reduceIte,go_sem,r4literal_S,r4literal_E,eq_false (show¬a.1=1 by omega),eq_true hk2,eq_true ho]
    all_goals
     refine effS_call (.inl ⟨rfl,ub u h.size 0,a.2.2.2.1,_,rfl,by rw[rep_term];rfl,wl,fun u2 h2 s2=>⟨zz0,?_⟩⟩)
     have s02:=Step.trans0 (S:=S0) (u:=u) (h:=h) (by repeat (first|exact Step.refl _ _ _|assumption|apply Step.pushR)) s2
     have B0:Blk u2 h2 h.size [.int .i64 a.1,str a.2.1.1,.slice va a.2.1.2.1.length vc,.int .i64 a.2.1.2.2,.int .i64 a.2.2.1,.int .i64 a.2.2.2.1.1,.int .i64 a.2.2.2.1.2.1,str a.2.2.2.1.2.2.1,.int .i64 a.2.2.2.1.2.2.2,.int .i64 a.2.2.2.2.1.1,.int .i64 a.2.2.2.2.1.2.1,str a.2.2.2.2.1.2.2.1,.int .i64 a.2.2.2.2.1.2.2.2,.int .i64 a.2.2.2.2.2]:=Blk.step0 (Blk.mk (by simp only[e_psz];omega) (by simp(disch:=first|omega|(simp only[zz];try omega;done)) only[go_sem]) (by simp(disch:=first|omega|(simp only[zz];try omega;done)) only[go_sem]) (by repeat (first|(refine ub_at ?_;simp only[];done)|apply ub_zero)) (by simp(disch:=first|omega|(simp only[zz];try omega;done)) only[go_sem])) s2
     have b0l:=B0.1
     simp only[vB]
     cases hz:zeroB a.2.2.2.1 with
     |false=>
      rw[hz]at hK
      simp only[Bool.false_eq_true,false_and,if_false]at hK
      simp(disch:=first|omega|(simp only[zz];try omega;done)) only[↓reduceIte,go_sem,B0.at]
      exact hK _ _ s02
     |true=>
      rw[hz]at hK
      simp only[true_and]at hK
      simp(disch:=first|omega|(simp only[zz];try omega;done)) only[↓reduceIte,go_sem,B0.at,B0.2.1]
      refine effS_call (.inl ⟨rfl,u2,a.2.2.2.2.1,_,rfl,by rw[rep_term];rfl,wr,fun u3 h3 s3=>⟨zz0,?_⟩⟩)
      have s03:=s02.trans0 s3
      have B1:=B0.step0 s3
      simp only[vB]
      cases hy:zeroB a.2.2.2.2.1 with
      |false=>
       rw[hy]at hK
       simp only[Bool.false_eq_true,if_false]at hK
       simp(disch:=first|omega|(simp only[zz];try omega;done)) only[↓reduceIte,go_sem]
       exact hK _ _ s03
      |true=>
       rw[hy]at hK
       simp only[if_true]at hK
       simp(disch:=first|omega|(simp only[zz];try omega;done)) only[↓reduceIte,go_sem,B1.at,B1.2.1]
       refine effS_call (.inr (.inl ⟨rfl,u3,a.2.1,_,rfl,by rw[rep_atom];exact⟨_,rfl,hv.mono s03.ge⟩,wat,fun u4 h4 s4=>⟨zz0,?_⟩⟩))
       simp(disch:=first|omega|(simp only[zz];try omega;done)) only[↓reduceIte,go_sem,vI]
       exact hK _ _ (s03.trans0 s4)
   exact start
  ·simp only[eq_false ho,false_and,if_false]at hK
   rcases hk with hk1|hk2
   ·simp(disch:=first|omega|(simp only[zz];try omega;done)) only[↓reduceIte,go_sem,r4literal_S,r4literal_E,eq_true hk1,eq_false ho]
    exact hK _ _ (by repeat (first|exact Step.refl _ _ _|assumption|apply Step.pushR))
   ·simp(disch:=first|omega|(simp only[zz];try omega;done)) only[↓reduceIte,go_sem,r4literal_S,r4literal_E,eq_false (show¬a.1=1 by omega),eq_true hk2,eq_false ho]
    exact hK _ _ (by repeat (first|exact Step.refl _ _ _|assumption|apply Step.pushR))
 ·rw[if_neg hk]at hK
  have k1:=eq_false (show¬a.1=1 by omega)
  have k2:=eq_false (show¬a.1=2 by omega)
  by_cases hk3:a.1=3
  ·rw[if_pos hk3]at hK
   unfold testW at hK
   by_cases hop:a.2.2.1<1
   ·rw[if_pos (.inl hop)]at hK
    simp(disch:=first|omega|(simp only[zz];try omega;done)) only[↓reduceIte,go_sem,r4literal_S,r4literal_E,k1,k2,eq_true hk3,eq_true hop]
    exact hK _ _ (by repeat (first|exact Step.refl _ _ _|assumption|apply Step.pushR))
   by_cases hop6:6<a.2.2.1
   ·rw[if_pos (.inr (.inl hop6))]at hK
    simp(disch:=first|omega|(simp only[zz];try omega;done)) only[↓reduceIte,go_sem,r4literal_S,r4literal_E,k1,k2,eq_true hk3,eq_false hop,eq_true hop6]
    exact hK _ _ (by repeat (first|exact Step.refl _ _ _|assumption|apply Step.pushR))
   by_cases hpr:a.2.1.1=[]
   ·by_cases har:a.2.1.2.1=[]
    ·rw[if_neg (by rintro (h|h|h|h);exact hop h;exact hop6 h;exact h hpr;exact h har)]at hK
     have hal:a.2.1.2.1.length=0:=by rw[har];rfl
     simp(disch:=first|omega|(simp only[zz];try omega;done)) only[↓reduceIte,go_sem,r4literal_S,r4literal_E,k1,k2,eq_true hk3,eq_false hop,eq_false hop6,eq_true hpr,eq_false (show¬(0:Int)<(a.2.1.2.1.length:Int) by omega)]
     refine effS_call (.inr (.inr ⟨rfl,ub u h.size 0,a.2.2.2.1,_,rfl,by rw[rep_term];rfl,wl,fun u2 h2 s2=>⟨zz0,?_⟩⟩))
     have s02:=Step.trans0 (S:=S0) (u:=u) (h:=h) (by repeat (first|exact Step.refl _ _ _|assumption|apply Step.pushR)) s2
     have B0:Blk u2 h2 h.size [.int .i64 a.1,str a.2.1.1,.slice va a.2.1.2.1.length vc,.int .i64 a.2.1.2.2,.int .i64 a.2.2.1,.int .i64 a.2.2.2.1.1,.int .i64 a.2.2.2.1.2.1,str a.2.2.2.1.2.2.1,.int .i64 a.2.2.2.1.2.2.2,.int .i64 a.2.2.2.2.1.1,.int .i64 a.2.2.2.2.1.2.1,str a.2.2.2.2.1.2.2.1,.int .i64 a.2.2.2.2.1.2.2.2,.int .i64 a.2.2.2.2.2]:=Blk.step0 (Blk.mk (by simp only[e_psz];omega) (by simp(disch:=first|omega|(simp only[zz];try omega;done)) only[go_sem]) (by simp(disch:=first|omega|(simp only[zz];try omega;done)) only[go_sem]) (by repeat (first|(refine ub_at ?_;simp only[];done)|apply ub_zero)) (by simp(disch:=first|omega|(simp only[zz];try omega;done)) only[go_sem])) s2
     have b0l:=B0.1
     simp only[vI]
     by_cases h0:termW a.2.2.2.1=0
     ·rw[if_pos h0]at hK
      simp(disch:=first|omega|(simp only[zz];try omega;done)) only[↓reduceIte,go_sem,B0.at,B0.2.1,h0]
      refine effS_call (.inr (.inr ⟨rfl,u2,a.2.2.2.2.1,_,rfl,by rw[rep_term];rfl,wr,fun u3 h3 s3=>⟨zz0,?_⟩⟩))
      simp(disch:=first|omega|(simp only[zz];try omega;done)) only[↓reduceIte,go_sem,vI]
      exact hK _ _ (s02.trans0 s3)
     ·rw[if_neg h0]at hK
      simp(disch:=first|omega|(simp only[zz];try omega;done)) only[↓reduceIte,go_sem,eq_false h0]
      exact hK _ _ s02
    ·have hal:0<a.2.1.2.1.length:=List.length_pos_iff.2 har
     rw[if_pos (.inr (.inr (.inr har)))]at hK
     simp(disch:=first|omega|(simp only[zz];try omega;done)) only[↓reduceIte,go_sem,r4literal_S,r4literal_E,k1,k2,eq_true hk3,eq_false hop,eq_false hop6,eq_true hpr,eq_true (show(0:Int)<(a.2.1.2.1.length:Int) by omega)]
     exact hK _ _ (by repeat (first|exact Step.refl _ _ _|assumption|apply Step.pushR))
   ·rw[if_pos (.inr (.inr (.inl hpr)))]at hK
    simp(disch:=first|omega|(simp only[zz];try omega;done)) only[↓reduceIte,go_sem,r4literal_S,r4literal_E,k1,k2,eq_true hk3,eq_false hop,eq_false hop6,eq_false hpr]
    exact hK _ _ (by repeat (first|exact Step.refl _ _ _|assumption|apply Step.pushR))
  ·rw[if_neg hk3]at hK
   simp(disch:=first|omega|(simp only[zz];try omega;done)) only[↓reduceIte,go_sem,r4literal_S,r4literal_E,k1,k2,eq_false hk3]
   exact hK _ _ (by repeat (first|exact Step.refl _ _ _|assumption|apply Step.pushR))
def G_prFirstL:Ctr:=fun f vs h K _=>(f=80∧C_data (vI litW) vs h K)
theorem G_prFirstL_ok:GOk Tryz.prog G_prFirstL:=by
 rintro f vs h K KP (⟨rfl,hC⟩)
 exact prWellLiteral_ok hC
theorem prFirstL_ok(hC:C_first 80 litW vs h K):HCX Tryz.prog 79 vs h K KP:=by
 obtain⟨u,v,l,rfl,hl,hw,hK⟩:=hC
 obtain⟨la,lc,rfl,q1,q2⟩:=hl.sl
 have hm:=mlen
 refine prFirstL_H G_prFirstL G_prFirstL_ok _ _ ?_
 simp(disch:=first|omega|(simp only[zz];try omega;done)) only[↓reduceIte,go_sem,prFirstL_S,prFirstL_E]
 obtain⟨I,hI⟩: ∃I:Nat→Env→H→Prop,I=fun i σ h'=>σ 1= .func (.func 80) #[] #[]∧σ 8= .slice la l.length lc∧σ 9= .int .i64 l.length∧σ 10= .int .i64 i∧i≤l.length∧firstW litW l=firstW litW (l.drop i)∧ ∃u',Step S0 u h u' h':=⟨_,rfl⟩
 refine wpS_loop I (fun i=>l.length - i) 0 (by rw[hI];exact⟨by simp [upd],by simp [upd],by simp [upd],by simp [upd],Nat.zero_le _,rfl,u,.refl _ _ _⟩) ?_
 intro i σ h' hy
 rw[hI]at hy
 obtain⟨e1,e8,e9,e10,hi,hf,u',st⟩:=hy
 by_cases hlt:i<l.length
 ·obtain⟨x,hs⟩: ∃x,l[i]? =some x:=⟨l[i],by simp [hlt]⟩
  obtain⟨pb,po,rfl,hpb,hpu,hpz,hpr⟩:=(hl.mono st.ge).row i x hs
  rw[rep_literal]at hpr
  obtain⟨pv,hpr,hpv⟩:=hpr
  obtain⟨pva,pvc,rfl,-,-⟩:=hpv.sl
  simp only[Term.enc,sz_literal,hvs_14,List.cons_append,List.nil_append,List.cons.injEq,and_true]at hpr hpu hpz
  obtain⟨p0,p1,p2,p3,p4,p5,p6,p7,p8,p9,p10,p11,p12,p13⟩:=hpr
  simp(disch:=first|omega|(simp only[zz];try omega;done)) only[↓reduceIte,go_sem,prFirstL_L1,e1,e8,e9,e10,hlt,p0,p1,p2,p3,p4,p5,p6,p7,p8,p9,p10,p11,p12,p13]
  refine effS_callv ⟨rfl,_,x,_,rfl,by rw[rep_literal];exact⟨_,rfl,hpv.mono (Step.ge (S:=S0) (by repeat (first|exact Step.refl _ _ _|assumption|apply Step.pushR)))⟩,hw x (List.mem_of_getElem? hs),fun u2 h2 s2=>⟨zz0,?_⟩⟩
  have s12:=Step.trans0 (S:=S0) (u:=u') (h:=h') (by repeat (first|exact Step.refl _ _ _|assumption|apply Step.pushR)) s2
  rw[firstW_drop hs]at hf
  simp only[vI]
  by_cases h0:litW x=0
  ·rw[if_pos h0]at hf
   simp(disch:=first|omega|(simp only[zz];try omega;done)) only[↓reduceIte,go_sem,e10,h0]
   refine⟨i+1,?_,by omega⟩
   rw[hI]
   exact⟨by simp [upd,e1],by simp [upd,e8],by simp [upd,e9],by simp [upd],hlt,hf,u2,st.trans0 s12⟩
  ·rw[if_neg h0]at hf
   rw[hf]at hK
   simp(disch:=first|omega|(simp only[zz];try omega;done)) only[↓reduceIte,go_sem,eq_false h0]
   exact hK _ _ (st.trans0 s12)
 ·obtain rfl:i=l.length:=by omega
  rw[List.drop_length]at hf
  rw[hf]at hK
  simp(disch:=first|omega|(simp only[zz];try omega;done)) only[↓reduceIte,go_sem,prFirstL_L1,e9,e10]
  exact hK _ _ st
def G_prWellClause:Ctr:=fun f vs h K _=>(f=78∧C_data (vI atomW) vs h K)∨(f=79∧C_first 80 litW vs h K)
theorem G_prWellClause_ok:GOk Tryz.prog G_prWellClause:=by
 rintro f vs h K KP (⟨rfl,hC⟩|⟨rfl,hC⟩)
 ·exact prWellAtom_ok hC
 ·exact prFirstL_ok hC
theorem prWellClause_ok(hC:C_data (vI clauseW) vs h K):HCX Tryz.prog 67 vs h K KP:=by
 obtain⟨u,a,l,rfl,hr,⟨wat,⟨-,wb⟩⟩,hK⟩:=hC
 rw[rep_clause]at hr
 obtain⟨v,w,rfl,hv,hw⟩:=hr
 obtain⟨va,vc,rfl,-,-⟩:=hv.sl
 obtain⟨wa,wc,rfl,q1,q2⟩:=hw.sl
 have hm:=mlen
 simp only[vI,clauseW]at hK
 refine prWellClause_H G_prWellClause G_prWellClause_ok _ ?_
 simp(disch:=first|omega|(simp only[zz];try omega;done)) only[↓reduceIte,go_sem,prWellClause_S,prWellClause_E]
 refine effS_call (.inl ⟨rfl,_,a.1,_,rfl,by rw[rep_atom];exact⟨_,rfl,hv.mono (Step.ge (S:=S0) (by repeat (first|exact Step.refl _ _ _|assumption|apply Step.pushR)))⟩,wat,fun u2 h2 s2=>⟨zz0,?_⟩⟩)
 have s02:=Step.trans0 (S:=S0) (u:=u) (h:=h) (by repeat (first|exact Step.refl _ _ _|assumption|apply Step.pushR)) s2
 have B0:Blk u2 h2 h.size [str a.1.1,.slice va a.1.2.1.length vc,.int .i64 a.1.2.2,.slice wa a.2.length wc]:=Blk.step0 (Blk.mk (by simp only[e_psz];omega) (by simp(disch:=first|omega|(simp only[zz];try omega;done)) only[go_sem]) (by simp(disch:=first|omega|(simp only[zz];try omega;done)) only[go_sem]) (by repeat (first|(refine ub_at ?_;simp only[];done)|apply ub_zero)) (by simp(disch:=first|omega|(simp only[zz];try omega;done)) only[go_sem])) s2
 simp only[vI]
 by_cases h0:atomW a.1=0
 ·rw[if_pos h0]at hK
  by_cases h8:16<a.2.length
  ·rw[if_pos h8]at hK
   simp(disch:=first|omega|(simp only[zz];try omega;done)) only[↓reduceIte,go_sem,B0.at,B0.2.1,h0,eq_true (show(16:Int)<(a.2.length:Int) by omega)]
   exact hK _ _ s02
  ·rw[if_neg h8]at hK
   simp(disch:=first|omega|(simp only[zz];try omega;done)) only[↓reduceIte,go_sem,B0.at,B0.2.1,h0,eq_false (show¬(16:Int)<(a.2.length:Int) by omega)]
   refine effS_call (.inr ⟨rfl,u2,_,a.2,rfl,hw.mono s02.ge,wb,fun u3 h3 s3=>⟨zz0,?_⟩⟩)
   simp(disch:=first|omega|(simp only[zz];try omega;done)) only[↓reduceIte,go_sem]
   exact hK _ _ (s02.trans0 s3)
 ·rw[if_neg h0]at hK
  simp(disch:=first|omega|(simp only[zz];try omega;done)) only[↓reduceIte,go_sem,eq_false h0]
  exact hK _ _ s02
def G_r4clause:Ctr:=fun f vs h K _=>(f=72∧C_data (vI atomW) vs h K)∨(f=73∧C_data (vI litW) vs h K)
theorem G_r4clause_ok:GOk Tryz.prog G_r4clause:=by
 rintro f vs h K KP (⟨rfl,hC⟩|⟨rfl,hC⟩)
 ·exact r4atom_ok hC
 ·exact r4literal_ok hC
theorem r4clause_ok(hC:C_data (vI clauseW) vs h K):HCX Tryz.prog 59 vs h K KP:=by
 obtain⟨u,a,l,rfl,hr,⟨wat,⟨-,wb⟩⟩,hK⟩:=hC
 rw[rep_clause]at hr
 obtain⟨v,w,rfl,hv,hw⟩:=hr
 obtain⟨va,vc,rfl,-,-⟩:=hv.sl
 obtain⟨wa,wc,rfl,q1,q2⟩:=hw.sl
 have hm:=mlen
 simp only[vI,clauseW]at hK
 refine r4clause_H G_r4clause G_r4clause_ok _ ?_
 simp(disch:=first|omega|(simp only[zz];try omega;done)) only[↓reduceIte,go_sem,r4clause_S,r4clause_E]
 refine effS_call (.inl ⟨rfl,_,a.1,_,rfl,by rw[rep_atom];exact⟨_,rfl,hv.mono (Step.ge (S:=S0) (by repeat (first|exact Step.refl _ _ _|assumption|apply Step.pushR)))⟩,wat,fun u2 h2 s2=>⟨zz0,?_⟩⟩)
 have s02:=Step.trans0 (S:=S0) (u:=u) (h:=h) (by repeat (first|exact Step.refl _ _ _|assumption|apply Step.pushR)) s2
 have B0:Blk u2 h2 h.size [str a.1.1,.slice va a.1.2.1.length vc,.int .i64 a.1.2.2,.slice wa a.2.length wc]:=Blk.step0 (Blk.mk (by simp only[e_psz];omega) (by simp(disch:=first|omega|(simp only[zz];try omega;done)) only[go_sem]) (by simp(disch:=first|omega|(simp only[zz];try omega;done)) only[go_sem]) (by repeat (first|(refine ub_at ?_;simp only[];done)|apply ub_zero)) (by simp(disch:=first|omega|(simp only[zz];try omega;done)) only[go_sem])) s2
 simp only[vI]
 by_cases h0:atomW a.1=0
 ·rw[if_pos h0]at hK
  by_cases h8:16<a.2.length
  ·rw[if_pos h8]at hK
   simp(disch:=first|omega|(simp only[zz];try omega;done)) only[↓reduceIte,go_sem,B0.at,B0.2.1,h0,eq_true (show(16:Int)<(a.2.length:Int) by omega)]
   exact hK _ _ s02
  ·rw[if_neg h8]at hK
   simp(disch:=first|omega|(simp only[zz];try omega;done)) only[↓reduceIte,go_sem,B0.at,B0.2.1,h0,eq_false (show¬(16:Int)<(a.2.length:Int) by omega)]
   obtain⟨I,hI⟩: ∃I:Nat→Env→H→Prop,I=fun i σ h'=>σ 1= .pointer (some ⟨h.size,0,none⟩)∧σ 4= .int .i64 i∧i≤a.2.length∧firstW litW a.2=firstW litW (a.2.drop i)∧ ∃u',Step S0 u h u' h'∧Blk u' h' h.size [str a.1.1,.slice va a.1.2.1.length vc,.int .i64 a.1.2.2,.slice wa a.2.length wc]:=⟨_,rfl⟩
   refine wpS_loop I (fun i=>a.2.length - i) 0 (by rw[hI];exact⟨by simp [upd],by simp [upd],Nat.zero_le _,rfl,u2,s02,B0⟩) ?_
   intro i σ h' hy
   rw[hI]at hy
   obtain⟨e1,e3,hi,hf,u',st,B⟩:=hy
   by_cases hlt:i<a.2.length
   ·obtain⟨x,hs⟩: ∃x,a.2[i]? =some x:=⟨a.2[i],by simp [hlt]⟩
    obtain⟨pb,po,rfl,hpb,hpu,hpz,hpr⟩:=(hw.mono st.ge).row i x hs
    rw[rep_literal]at hpr
    obtain⟨pv,hpr,hpv⟩:=hpr
    obtain⟨pva,pvc,rfl,-,-⟩:=hpv.sl
    simp only[Term.enc,sz_literal,hvs_14,List.cons_append,List.nil_append,List.cons.injEq,and_true]at hpr hpu hpz
    obtain⟨p0,p1,p2,p3,p4,p5,p6,p7,p8,p9,p10,p11,p12,p13⟩:=hpr
    simp(disch:=first|omega|(simp only[zz];try omega;done)) only[↓reduceIte,go_sem,r4clause_L1,e1,e3,B.at,B.2.1,hlt,p0,p1,p2,p3,p4,p5,p6,p7,p8,p9,p10,p11,p12,p13]
    refine effS_call (.inr ⟨rfl,u',x,_,rfl,by rw[rep_literal];exact⟨_,rfl,hpv⟩,wb x (List.mem_of_getElem? hs),fun u3 h3 s3=>⟨zz0,?_⟩⟩)
    rw[firstW_drop hs]at hf
    simp only[vI]
    by_cases h0:litW x=0
    ·rw[if_pos h0]at hf
     simp(disch:=first|omega|(simp only[zz];try omega;done)) only[↓reduceIte,go_sem,e3,h0]
     refine⟨i+1,?_,by omega⟩
     rw[hI]
     exact⟨by simp [upd,e1],by simp [upd],hlt,hf,u3,st.trans0 s3,B.step0 s3⟩
    ·rw[if_neg h0]at hf
     rw[hf]at hK
     simp(disch:=first|omega|(simp only[zz];try omega;done)) only[↓reduceIte,go_sem,eq_false h0]
     exact hK _ _ (st.trans0 s3)
   ·obtain rfl:i=a.2.length:=by omega
    rw[List.drop_length]at hf
    rw[hf]at hK
    simp(disch:=first|omega|(simp only[zz];try omega;done)) only[↓reduceIte,go_sem,r4clause_L1,e1,e3,B.at,B.2.1]
    exact hK _ _ st
 ·rw[if_neg h0]at hK
  simp(disch:=first|omega|(simp only[zz];try omega;done)) only[↓reduceIte,go_sem,eq_false h0]
  exact hK _ _ s02
def G_prFirstC:Ctr:=fun f vs h K _=>(f=67∧C_data (vI clauseW) vs h K)
theorem G_prFirstC_ok:GOk Tryz.prog G_prFirstC:=by
 rintro f vs h K KP (⟨rfl,hC⟩)
 exact prWellClause_ok hC
theorem prFirstC_ok(hC:C_first 67 clauseW vs h K):HCX Tryz.prog 66 vs h K KP:=by
 obtain⟨u,v,l,rfl,hl,hw,hK⟩:=hC
 obtain⟨la,lc,rfl,q1,q2⟩:=hl.sl
 have hm:=mlen
 refine prFirstC_H G_prFirstC G_prFirstC_ok _ _ ?_
 simp(disch:=first|omega|(simp only[zz];try omega;done)) only[↓reduceIte,go_sem,prFirstC_S,prFirstC_E]
 obtain⟨I,hI⟩: ∃I:Nat→Env→H→Prop,I=fun i σ h'=>σ 1= .func (.func 67) #[] #[]∧σ 8= .slice la l.length lc∧σ 9= .int .i64 l.length∧σ 10= .int .i64 i∧i≤l.length∧firstW clauseW l=firstW clauseW (l.drop i)∧ ∃u',Step S0 u h u' h':=⟨_,rfl⟩
 refine wpS_loop I (fun i=>l.length - i) 0 (by rw[hI];exact⟨by simp [upd],by simp [upd],by simp [upd],by simp [upd],Nat.zero_le _,rfl,u,.refl _ _ _⟩) ?_
 intro i σ h' hy
 rw[hI]at hy
 obtain⟨e1,e8,e9,e10,hi,hf,u',st⟩:=hy
 by_cases hlt:i<l.length
 ·obtain⟨x,hs⟩: ∃x,l[i]? =some x:=⟨l[i],by simp [hlt]⟩
  obtain⟨pb,po,rfl,hpb,hpu,hpz,hpr⟩:=(hl.mono st.ge).row i x hs
  rw[rep_clause]at hpr
  obtain⟨pv,pw,hpr,hpv,hpw⟩:=hpr
  obtain⟨pva,pvc,rfl,-,-⟩:=hpv.sl
  obtain⟨pwa,pwc,rfl,-,-⟩:=hpw.sl
  simp only[sz_clause,hvs_4,List.cons.injEq,and_true]at hpr hpu hpz
  obtain⟨p0,p1,p2,p3⟩:=hpr
  simp(disch:=first|omega|(simp only[zz];try omega;done)) only[↓reduceIte,go_sem,prFirstC_L1,e1,e8,e9,e10,hlt,p0,p1,p2,p3]
  refine effS_callv ⟨rfl,_,x,_,rfl,by rw[rep_clause];exact⟨_,_,rfl,hpv.mono (Step.ge (S:=S0) (by repeat (first|exact Step.refl _ _ _|assumption|apply Step.pushR))),hpw.mono (Step.ge (S:=S0) (by repeat (first|exact Step.refl _ _ _|assumption|apply Step.pushR)))⟩,hw x (List.mem_of_getElem? hs),fun u2 h2 s2=>⟨zz0,?_⟩⟩
  have s12:=Step.trans0 (S:=S0) (u:=u') (h:=h') (by repeat (first|exact Step.refl _ _ _|assumption|apply Step.pushR)) s2
  rw[firstW_drop hs]at hf
  simp only[vI]
  by_cases h0:clauseW x=0
  ·rw[if_pos h0]at hf
   simp(disch:=first|omega|(simp only[zz];try omega;done)) only[↓reduceIte,go_sem,e10,h0]
   refine⟨i+1,?_,by omega⟩
   rw[hI]
   exact⟨by simp [upd,e1],by simp [upd,e8],by simp [upd,e9],by simp [upd],hlt,hf,u2,st.trans0 s12⟩
  ·rw[if_neg h0]at hf
   rw[hf]at hK
   simp(disch:=first|omega|(simp only[zz];try omega;done)) only[↓reduceIte,go_sem,eq_false h0]
   exact hK _ _ (st.trans0 s12)
 ·obtain rfl:i=l.length:=by omega
  rw[List.drop_length]at hf
  rw[hf]at hK
  simp(disch:=first|omega|(simp only[zz];try omega;done)) only[↓reduceIte,go_sem,prFirstC_L1,e9,e10]
  exact hK _ _ st
def G_prWell:Ctr:=fun f vs h K _=>(f=66∧C_first 67 clauseW vs h K)
theorem G_prWell_ok:GOk Tryz.prog G_prWell:=by
 rintro f vs h K KP (⟨rfl,hC⟩)
 exact prFirstC_ok hC
theorem prWell_ok(hC:C_data (vI wellW) vs h K):HCX Tryz.prog 45 vs h K KP:=by
 obtain⟨u,a,l,rfl,hr,⟨-,wb⟩,hK⟩:=hC
 rw[rep_list]at hr
 obtain⟨w,rfl,hw⟩:=hr
 obtain⟨wa,wc,rfl,q1,q2⟩:=hw.sl
 have hm:=mlen
 simp only[vI,wellW]at hK
 refine prWell_H G_prWell G_prWell_ok _ ?_
 by_cases h8:512<a.length
 ·rw[if_pos h8]at hK
  simp(disch:=first|omega|(simp only[zz];try omega;done)) only[↓reduceIte,go_sem,prWell_S,prWell_E,eq_true (show(512:Int)<(a.length:Int) by omega)]
  exact hK _ _ (by repeat (first|exact Step.refl _ _ _|assumption|apply Step.pushR))
 ·rw[if_neg h8]at hK
  simp(disch:=first|omega|(simp only[zz];try omega;done)) only[↓reduceIte,go_sem,prWell_S,prWell_E,eq_false (show¬(512:Int)<(a.length:Int) by omega)]
  refine effS_call ⟨rfl,_,_,a,rfl,hw.mono (Step.ge (S:=S0) (by repeat (first|exact Step.refl _ _ _|assumption|apply Step.pushR))),wb,fun u3 h3 s3=>⟨zz0,?_⟩⟩
  simp(disch:=first|omega|(simp only[zz];try omega;done)) only[↓reduceIte,go_sem]
  exact hK _ _ (Step.trans0 (by repeat (first|exact Step.refl _ _ _|assumption|apply Step.pushR)) s3)
def G_r4Well:Ctr:=fun f vs h K _=>(f=59∧C_data (vI clauseW) vs h K)
theorem G_r4Well_ok:GOk Tryz.prog G_r4Well:=by
 rintro f vs h K KP (⟨rfl,hC⟩)
 exact r4clause_ok hC
theorem r4Well_ok(hC:C_data (vI wellW) vs h K):HCX Tryz.prog 32 vs h K KP:=by
 obtain⟨u,a,l,rfl,hr,⟨-,wb⟩,hK⟩:=hC
 rw[rep_list]at hr
 obtain⟨w,rfl,hw⟩:=hr
 obtain⟨wa,wc,rfl,q1,q2⟩:=hw.sl
 have hm:=mlen
 simp only[vI,wellW]at hK
 refine r4Well_H G_r4Well G_r4Well_ok _ ?_
 by_cases h8:512<a.length
 ·rw[if_pos h8]at hK
  simp(disch:=first|omega|(simp only[zz];try omega;done)) only[↓reduceIte,go_sem,r4Well_S,r4Well_E,eq_true (show(512:Int)<(a.length:Int) by omega)]
  exact hK _ _ (by repeat (first|exact Step.refl _ _ _|assumption|apply Step.pushR))
 ·rw[if_neg h8]at hK
  simp(disch:=first|omega|(simp only[zz];try omega;done)) only[↓reduceIte,go_sem,r4Well_S,r4Well_E,eq_false (show¬(512:Int)<(a.length:Int) by omega)]
  obtain⟨I,hI⟩: ∃I:Nat→Env→H→Prop,I=fun i σ h'=>σ 1= .pointer (some ⟨h.size,0,none⟩)∧σ 3= .int .i64 i∧i≤a.length∧firstW clauseW a=firstW clauseW (a.drop i)∧ ∃u',Step S0 u h u' h'∧Blk u' h' h.size [.slice wa a.length wc]:=⟨_,rfl⟩
  refine wpS_loop I (fun i=>a.length - i) 0 (by rw[hI];exact⟨by simp [upd],by simp [upd],Nat.zero_le _,rfl,_,(by repeat (first|exact Step.refl _ _ _|assumption|apply Step.pushR)),(Blk.mk (by simp only[e_psz];omega) (by simp(disch:=first|omega|(simp only[zz];try omega;done)) only[go_sem]) (by simp(disch:=first|omega|(simp only[zz];try omega;done)) only[go_sem]) (by repeat (first|(refine ub_at ?_;simp only[];done)|apply ub_zero)) (by simp(disch:=first|omega|(simp only[zz];try omega;done)) only[go_sem]))⟩) ?_
  intro i σ h' hy
  rw[hI]at hy
  obtain⟨e1,e3,hi,hf,u',st,B⟩:=hy
  by_cases hlt:i<a.length
  ·obtain⟨x,hs⟩: ∃x,a[i]? =some x:=⟨a[i],by simp [hlt]⟩
   obtain⟨pb,po,rfl,hpb,hpu,hpz,hpr⟩:=(hw.mono st.ge).row i x hs
   rw[rep_clause]at hpr
   obtain⟨pv,pw,hpr,hpv,hpw⟩:=hpr
   obtain⟨pva,pvc,rfl,-,-⟩:=hpv.sl
   obtain⟨pwa,pwc,rfl,-,-⟩:=hpw.sl
   simp only[sz_clause,hvs_4,List.cons.injEq,and_true]at hpr hpu hpz
   obtain⟨p0,p1,p2,p3⟩:=hpr
   simp(disch:=first|omega|(simp only[zz];try omega;done)) only[↓reduceIte,go_sem,r4Well_L1,e1,e3,B.at,B.2.1,hlt,p0,p1,p2,p3]
   refine effS_call (⟨rfl,u',x,_,rfl,by rw[rep_clause];exact⟨_,_,rfl,hpv,hpw⟩,wb x (List.mem_of_getElem? hs),fun u3 h3 s3=>⟨zz0,?_⟩⟩)
   rw[firstW_drop hs]at hf
   simp only[vI]
   by_cases h0:clauseW x=0
   ·rw[if_pos h0]at hf
    simp(disch:=first|omega|(simp only[zz];try omega;done)) only[↓reduceIte,go_sem,e3,h0]
    refine⟨i+1,?_,by omega⟩
    rw[hI]
    exact⟨by simp [upd,e1],by simp [upd],hlt,hf,u3,st.trans0 s3,B.step0 s3⟩
   ·rw[if_neg h0]at hf
    rw[hf]at hK
    simp(disch:=first|omega|(simp only[zz];try omega;done)) only[↓reduceIte,go_sem,eq_false h0]
    exact hK _ _ (st.trans0 s3)
  ·obtain rfl:i=a.length:=by omega
   rw[List.drop_length]at hf
   rw[hf]at hK
   simp(disch:=first|omega|(simp only[zz];try omega;done)) only[↓reduceIte,go_sem,r4Well_L1,e1,e3,B.at,B.2.1]
   exact hK _ _ st
end Go.Proofs.YtmjinnbdnpedcaaGreat
