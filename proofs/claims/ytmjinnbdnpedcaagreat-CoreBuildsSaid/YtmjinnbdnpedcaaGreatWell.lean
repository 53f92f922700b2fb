/- What is well formed: the reasons, in print and in the reference. -/
import Derived.Test.YtmjinnbdnpedcaaGreatWord
namespace Edict
def validB(k:Const):Bool:=if k.1=1 then decide (k.2.2=[])else if k.1=2 then decide (k.2.1=0) && nameB k.2.2 else if k.1=3 then decide (k.2.1=0) && decide (k.2.2.length≤255)else false
def constW(k:Const):Int:=if validB k then 0 else 5
def termW(t:Term):Int:=if t.1=4 then(if t.2.1=0∧varB t.2.2.1=true then 0 else 14)else constW (t.1,t.2.1,t.2.2.1)
def firstW{α:Type}(f:α→Int):List α→Int
 |[]=>0
 |x::l=>if f x=0 then firstW f l else f x
theorem firstW_drop{α:Type}{f:α→Int}{l:List α}{i:Nat}{x:α}(h:l[i]? =some x):firstW f (l.drop i)=if f x=0 then firstW f (l.drop (i+1))else f x:=by
 obtain⟨hi,rfl⟩:=List.getElem?_eq_some_iff.1 h
 rw[List.drop_eq_getElem_cons hi];rfl
def zeroB(t:Term):Bool:=decide (t.1=0) && decide (t.2.1=0) && decide (t.2.2.1=[])
def atomW(a:Atom):Int:=if nameB a.1 then(if 8<a.2.1.length then 22 else firstW termW a.2.1)else 14
def testW(l:Literal):Int:=if l.2.2.1<1∨6<l.2.2.1∨l.2.1.1≠[]∨l.2.1.2.1≠[]then 2 else if termW l.2.2.2.1=0 then termW l.2.2.2.2.1 else termW l.2.2.2.1
def litW(l:Literal):Int:=if l.1=1∨l.1=2 then(if l.2.2.1=0∧zeroB l.2.2.2.1=true∧zeroB l.2.2.2.2.1=true then atomW l.2.1 else 2)else if l.1=3 then testW l else 2
def clauseW(c:Clause):Int:=if atomW c.1=0 then(if 16<c.2.length then 23 else firstW litW c.2)else atomW c.1
def wellW(p:List Clause):Int:=if 512<p.length then 24 else firstW clauseW p
end Edict
namespace Go.Proofs.YtmjinnbdnpedcaaGreat
open Go Go.Ev Edict
variable {vs:List Value} {h:H} {K:Value→H→Prop} {KP:List PanicEntry→H→Prop}
theorem mlen:maxLen=9223372036854775807:=rfl
def C_data{α:Type} [Rep α](f:α→Value)(vs:List Value)(h:H)(K:Value→H→Prop):Prop:= ∃(u:U) (a:α) (l:List Value),vs=[.agg l.toArray]∧Rep.rep u h a l∧Rep.wf a∧ ∀u' h',Step S0 u h u' h'→K (f a) h'
def vI{α:Type}(f:α→Int):α→Value:=fun a=> .int .i64 (f a)
def vB{α:Type}(f:α→Bool):α→Value:=fun a=> .bool (f a)
def G_symValid:Ctr:=fun f vs h K _=>(f=87∧C_str nameB vs h K)
theorem G_symValid_ok:GOk Tryz.prog G_symValid:=by
 rintro f vs h K KP (⟨rfl,hC⟩)
 exact symIsName_ok hC
theorem symValid_ok(hC:C_data (vB validB) vs h K):HCX Tryz.prog 106 vs h K KP:=by
 obtain⟨u,⟨kk,ki,ks⟩,l,rfl,hr,⟨-,-,hs⟩,hK⟩:=hC
 have hs':ks.length≤9223372036854775807:=hs
 rw[rep_const]at hr
 subst hr
 simp only[vB,validB]at hK
 refine symValid_H G_symValid G_symValid_ok _ ?_
 by_cases h1:kk=1
 ·subst h1
  simp only[if_true]at hK
  simp(disch:=first|omega|(simp only[zz];try omega;done)) only[↓reduceIte,go_sem,symValid_S,symValid_E]
  exact hK _ _ (by repeat (first|exact Step.refl _ _ _|assumption|apply Step.pushR))
 by_cases h2:kk=2
 ·subst h2
  simp only[show¬((2:Int)=1) by decide,if_false,if_true]at hK
  by_cases hi:ki=0
  ·subst hi
   simp only[decide_true,Bool.true_and]at hK
   simp(disch:=first|omega|(simp only[zz];try omega;done)) only[↓reduceIte,go_sem,symValid_S,symValid_E]
   refine effS_call ⟨rfl,ub u h.size 0,ks,rfl,hs',fun u2 h2 s2=>⟨zz0,?_⟩⟩
   simp(disch:=first|omega|(simp only[zz];try omega;done)) only[↓reduceIte,go_sem]
   exact hK _ _ (Step.trans0 (by repeat (first|exact Step.refl _ _ _|assumption|apply Step.pushR)) s2)
  ·rw[decide_eq_false hi]at hK
   simp(disch:=first|omega|(simp only[zz];try omega;done)) only[↓reduceIte,go_sem,symValid_S,symValid_E,eq_false hi]
   exact hK _ _ (by repeat (first|exact Step.refl _ _ _|assumption|apply Step.pushR))
 by_cases h3:kk=3
 ·subst h3
  simp only[show¬((3:Int)=1) by decide,show¬((3:Int)=2) by decide,if_false,if_true]at hK
  have e:decide ((ks.length:Int)≤255)=decide (ks.length≤255):=by
   by_cases q:ks.length≤255
   ·rw[decide_eq_true q,decide_eq_true (by omega)]
   ·rw[decide_eq_false q,decide_eq_false (by omega)]
  simp(disch:=first|omega|(simp only[zz];try omega;done)) only[↓reduceIte,go_sem,symValid_S,symValid_E,e]
  exact hK _ _ (by repeat (first|exact Step.refl _ _ _|assumption|apply Step.pushR))
 ·simp only[eq_false h1,eq_false h2,eq_false h3,if_false]at hK
  simp(disch:=first|omega|(simp only[zz];try omega;done)) only[↓reduceIte,go_sem,symValid_S,symValid_E,eq_false h1,eq_false h2,eq_false h3]
  exact hK _ _ (by repeat (first|exact Step.refl _ _ _|assumption|apply Step.pushR))
def G_r1Valid:Ctr:=fun f vs h K _=>(f=82∧C_str nameB vs h K)
theorem G_r1Valid_ok:GOk Tryz.prog G_r1Valid:=by
 rintro f vs h K KP (⟨rfl,hC⟩)
 exact r1IsName_ok hC
theorem r1Valid_ok(hC:C_data (vB validB) vs h K):HCX Tryz.prog 95 vs h K KP:=by
 obtain⟨u,⟨kk,ki,ks⟩,l,rfl,hr,⟨-,-,hs⟩,hK⟩:=hC
 have hs':ks.length≤9223372036854775807:=hs
 rw[rep_const]at hr
 subst hr
 simp only[vB,validB]at hK
 refine r1Valid_H G_r1Valid G_r1Valid_ok _ ?_
 by_cases h1:kk=1
 ·subst h1
  simp only[if_true]at hK
  simp(disch:=first|omega|(simp only[zz];try omega;done)) only[↓reduceIte,go_sem,r1Valid_S,r1Valid_E]
  exact hK _ _ (by repeat (first|exact Step.refl _ _ _|assumption|apply Step.pushR))
 by_cases h2:kk=2
 ·subst h2
  simp only[show¬((2:Int)=1) by decide,if_false,if_true]at hK
  by_cases hi:ki=0
  ·subst hi
   simp only[decide_true,Bool.true_and]at hK
   simp(disch:=first|omega|(simp only[zz];try omega;done)) only[↓reduceIte,go_sem,r1Valid_S,r1Valid_E]
   refine effS_call ⟨rfl,ub u h.size 0,ks,rfl,hs',fun u2 h2 s2=>⟨zz0,?_⟩⟩
   simp(disch:=first|omega|(simp only[zz];try omega;done)) only[↓reduceIte,go_sem]
   exact hK _ _ (Step.trans0 (by repeat (first|exact Step.refl _ _ _|assumption|apply Step.pushR)) s2)
  ·rw[decide_eq_false hi]at hK
   simp(disch:=first|omega|(simp only[zz];try omega;done)) only[↓reduceIte,go_sem,r1Valid_S,r1Valid_E,eq_false hi]
   exact hK _ _ (by repeat (first|exact Step.refl _ _ _|assumption|apply Step.pushR))
 by_cases h3:kk=3
 ·subst h3
  simp only[show¬((3:Int)=1) by decide,show¬((3:Int)=2) by decide,if_false,if_true]at hK
  have e:decide ((ks.length:Int)≤255)=decide (ks.length≤255):=by
   by_cases q:ks.length≤255
   ·rw[decide_eq_true q,decide_eq_true (by omega)]
   ·rw[decide_eq_false q,decide_eq_false (by omega)]
  simp(disch:=first|omega|(simp only[zz];try omega;done)) only[↓reduceIte,go_sem,r1Valid_S,r1Valid_E,e]
  exact hK _ _ (by repeat (first|exact Step.refl _ _ _|assumption|apply Step.pushR))
 ·simp only[eq_false h1,eq_false h2,eq_false h3,if_false]at hK
  simp(disch:=first|omega|(simp only[zz];try omega;done)) only[↓reduceIte,go_sem,r1Valid_S,r1Valid_E,eq_false h1,eq_false h2,eq_false h3]
  exact hK _ _ (by repeat (first|exact Step.refl _ _ _|assumption|apply Step.pushR))
def C_constant(vs:List Value)(h:H)(K:Value→H→Prop):Prop:= ∃(u:U) (t:Term),vs=[.agg (Term.enc t).toArray]∧ ∀u' h',Step S0 u h u' h'→K (.agg #[.int .i64 t.1,.int .i64 t.2.1,str t.2.2.1]) h'
theorem prConstant_ok(hC:C_constant vs h K):HCX Tryz.prog 102 vs h K KP:=by
 obtain⟨u,t,rfl,hK⟩:=hC
 refine prConstant_H (fun _ _ _ _ _=>False) (fun _ _ _ _ _ h=>h.elim) _ ?_
 simp(disch:=first|omega|(simp only[zz];try omega;done)) only[↓reduceIte,go_sem,prConstant_S,prConstant_E,Term.enc]
 exact hK _ _ (by repeat (first|exact Step.refl _ _ _|assumption|apply Step.pushR))
def G_prWellConst:Ctr:=fun f vs h K _=>(f=106∧C_data (vB validB) vs h K)
theorem G_prWellConst_ok:GOk Tryz.prog G_prWellConst:=by
 rintro f vs h K KP (⟨rfl,hC⟩)
 exact symValid_ok hC
theorem prWellConst_ok(hC:C_data (vI constW) vs h K):HCX Tryz.prog 101 vs h K KP:=by
 obtain⟨u,k,l,rfl,hr,hw,hK⟩:=hC
 have hr':=hr
 rw[rep_const]at hr
 subst hr
 simp only[vI,constW]at hK
 refine prWellConst_H G_prWellConst G_prWellConst_ok _ ?_
 simp(disch:=first|omega|(simp only[zz];try omega;done)) only[↓reduceIte,go_sem,prWellConst_S,prWellConst_E]
 refine effS_call ⟨rfl,_,k,_,rfl,Rep.mono (Step.ge (S:=S0) (by repeat (first|exact Step.refl _ _ _|assumption|apply Step.pushR))) hr',hw,fun u2 h2 s2=>⟨zz0,?_⟩⟩
 simp only[vB]
 have s02:=Step.trans0 (S:=S0) (u:=u) (h:=h) (by repeat (first|exact Step.refl _ _ _|assumption|apply Step.pushR)) s2
 cases hv:validB k with
 |true=>rw[hv]at hK;simp(disch:=first|omega|(simp only[zz];try omega;done)) only[↓reduceIte,go_sem];exact hK _ _ s02
 |false=>rw[hv]at hK;simp(disch:=first|omega|(simp only[zz];try omega;done)) only[↓reduceIte,go_sem];exact hK _ _ s02
def G_prWellTerm:Ctr:=fun f vs h K _=>(f=100∧C_str varB vs h K)∨(f=102∧C_constant vs h K)∨(f=101∧C_data (vI constW) vs h K)
theorem G_prWellTerm_ok:GOk Tryz.prog G_prWellTerm:=by
 rintro f vs h K KP (⟨rfl,hC⟩|⟨rfl,hC⟩|⟨rfl,hC⟩)
 ·exact symIsVar_ok hC
 ·exact prConstant_ok hC
 ·exact prWellConst_ok hC
def G_r4term:Ctr:=fun f vs h K _=>(f=94∧C_str varB vs h K)∨(f=95∧C_data (vB validB) vs h K)
theorem G_r4term_ok:GOk Tryz.prog G_r4term:=by
 rintro f vs h K KP (⟨rfl,hC⟩|⟨rfl,hC⟩)
 ·exact r1IsVar_ok hC
 ·exact r1Valid_ok hC
theorem prWellTerm_ok(hC:C_data (vI termW) vs h K):HCX Tryz.prog 89 vs h K KP:=by
 obtain⟨u,⟨tk,ti,ts,to⟩,l,rfl,hr,⟨⟨w1,w2⟩,⟨w3,w4⟩,hs,⟨w5,w6⟩⟩,hK⟩:=hC
 have hs':ts.length≤9223372036854775807:=hs
 rw[rep_term]at hr
 subst hr
 simp only[vI,termW]at hK
 refine prWellTerm_H G_prWellTerm G_prWellTerm_ok _ ?_
 by_cases h4:tk=4
 ·subst h4
  simp only[if_true]at hK
  by_cases hi:ti=0
  ·subst hi
   simp only[true_and]at hK
   simp(disch:=first|omega|(simp only[zz];try omega;done)) only[↓reduceIte,go_sem,prWellTerm_S,prWellTerm_E,Term.enc]
   refine effS_call (.inl ⟨rfl,ub u h.size 0,ts,rfl,hs',fun u2 h2 s2=>⟨zz0,?_⟩⟩)
   have s02:=Step.trans0 (S:=S0) (u:=u) (h:=h) (by repeat (first|exact Step.refl _ _ _|assumption|apply Step.pushR)) s2
   cases hv:varB ts with
   |true=>rw[hv]at hK;simp(disch:=first|omega|(simp only[zz];try omega;done)) only[↓reduceIte,go_sem];exact hK _ _ s02
   |false=>rw[hv]at hK;simp(disch:=first|omega|(simp only[zz];try omega;done)) only[↓reduceIte,go_sem];exact hK _ _ s02
  ·simp only[eq_false hi,false_and,if_false]at hK
   simp(disch:=first|omega|(simp only[zz];try omega;done)) only[↓reduceIte,go_sem,prWellTerm_S,prWellTerm_E,Term.enc,eq_false hi]
   exact hK _ _ (by repeat (first|exact Step.refl _ _ _|assumption|apply Step.pushR))
 ·simp only[eq_false h4,if_false]at hK
  simp(disch:=first|omega|(simp only[zz];try omega;done)) only[↓reduceIte,go_sem,prWellTerm_S,prWellTerm_E,Term.enc,eq_false h4]
  refine effS_call (.inr (.inl ⟨rfl,ub u h.size 0,(tk,ti,ts,to),rfl,fun u2 h2 s2=>⟨zz0,?_⟩⟩))
  have s02:=Step.trans0 (S:=S0) (u:=u) (h:=h) (by repeat (first|exact Step.refl _ _ _|assumption|apply Step.pushR)) s2
  simp(disch:=first|omega|(simp only[zz];try omega;done)) only[↓reduceIte,go_sem]
  refine effS_call (.inr (.inr ⟨rfl,u2,(tk,ti,ts),_,rfl,by rw[rep_const],⟨⟨w1,w2⟩,⟨w3,w4⟩,hs⟩,fun u3 h3 s3=>⟨zz0,?_⟩⟩))
  simp(disch:=first|omega|(simp only[zz];try omega;done)) only[↓reduceIte,go_sem,vI]
  exact hK _ _ (s02.trans0 s3)
theorem r4term_ok(hC:C_data (vI termW) vs h K):HCX Tryz.prog 83 vs h K KP:=by
 obtain⟨u,⟨tk,ti,ts,to⟩,l,rfl,hr,⟨⟨w1,w2⟩,⟨w3,w4⟩,hs,⟨w5,w6⟩⟩,hK⟩:=hC
 have hs':ts.length≤9223372036854775807:=hs
 rw[rep_term]at hr
 subst hr
 simp only[vI,termW]at hK
 refine r4term_H G_r4term G_r4term_ok _ ?_
 by_cases h4:tk=4
 ·subst h4
  simp only[if_true]at hK
  by_cases hi:ti=0
  ·subst hi
   simp only[true_and]at hK
   simp(disch:=first|omega|(simp only[zz];try omega;done)) only[↓reduceIte,go_sem,r4term_S,r4term_E,Term.enc]
   refine effS_call (.inl ⟨rfl,ub u h.size 0,ts,rfl,hs',fun u2 h2 s2=>⟨zz0,?_⟩⟩)
   have s02:=Step.trans0 (S:=S0) (u:=u) (h:=h) (by repeat (first|exact Step.refl _ _ _|assumption|apply Step.pushR)) s2
   cases hv:varB ts with
   |true=>rw[hv]at hK;simp(disch:=first|omega|(simp only[zz];try omega;done)) only[↓reduceIte,go_sem];exact hK _ _ s02
   |false=>rw[hv]at hK;simp(disch:=first|omega|(simp only[zz];try omega;done)) only[↓reduceIte,go_sem];exact hK _ _ s02
  ·simp only[eq_false hi,false_and,if_false]at hK
   simp(disch:=first|omega|(simp only[zz];try omega;done)) only[↓reduceIte,go_sem,r4term_S,r4term_E,Term.enc,eq_false hi]
   exact hK _ _ (by repeat (first|exact Step.refl _ _ _|assumption|apply Step.pushR))
 ·simp only[eq_false h4,if_false,constW]at hK
  simp(disch:=first|omega|(simp only[zz];try omega;done)) only[↓reduceIte,go_sem,r4term_S,r4term_E,Term.enc,eq_false h4]
  refine effS_call (.inr ⟨rfl,ub u h.size 0,(tk,ti,ts),_,rfl,by rw[rep_const],⟨⟨w1,w2⟩,⟨w3,w4⟩,hs⟩,fun u2 h2 s2=>⟨zz0,?_⟩⟩)
  have s02:=Step.trans0 (S:=S0) (u:=u) (h:=h) (by repeat (first|exact Step.refl _ _ _|assumption|apply Step.pushR)) s2
  simp only[vB]
  cases hv:validB (tk,ti,ts)with
  |true=>rw[hv]at hK;simp(disch:=first|omega|(simp only[zz];try omega;done)) only[↓reduceIte,go_sem];exact hK _ _ s02
  |false=>rw[hv]at hK;simp(disch:=first|omega|(simp only[zz];try omega;done)) only[↓reduceIte,go_sem];exact hK _ _ s02

theorem prBare_ok(hC:C_data (vB zeroB) vs h K):HCX Tryz.prog 90 vs h K KP:=by
 obtain⟨u,t,l,rfl,hr,-,hK⟩:=hC
 rw[rep_term]at hr
 subst hr
 simp only[vB,zeroB]at hK
 refine prBare_H (fun _ _ _ _ _=>False) (fun _ _ _ _ _ h=>h.elim) _ ?_
 simp(disch:=first|omega|(simp only[zz];try omega;done)) only[↓reduceIte,go_sem,prBare_S,prBare_E,Term.enc]
 rw[Bool.and_assoc]at hK
 exact hK _ _ (by repeat (first|exact Step.refl _ _ _|assumption|apply Step.pushR))

theorem r4zero_ok(hC:C_data (vB zeroB) vs h K):HCX Tryz.prog 84 vs h K KP:=by
 obtain⟨u,t,l,rfl,hr,-,hK⟩:=hC
 rw[rep_term]at hr
 subst hr
 simp only[vB,zeroB]at hK
 refine r4zero_H (fun _ _ _ _ _=>False) (fun _ _ _ _ _ h=>h.elim) _ ?_
 simp(disch:=first|omega|(simp only[zz];try omega;done)) only[↓reduceIte,go_sem,r4zero_S,r4zero_E,Term.enc]
 skip
 exact hK _ _ (by repeat (first|exact Step.refl _ _ _|assumption|apply Step.pushR))
end Go.Proofs.YtmjinnbdnpedcaaGreat
