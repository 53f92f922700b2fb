import Derived.Test.YtmjinnbdnpedcaaGreatKcB
import Derived.Test.YtmjinnbdnpedcaaGreatKpD
import Derived.Test.YtmjinnbdnpedcaaGreatKbP
section Merged
section Merged
namespace Go.Proofs.YtmjinnbdnpedcaaGreat
open Go Go.Ev Edict
def C_ground(vs:List Value)(h:H)(K:Value→H→Prop):Prop:= ∃(u:U) (v:Value) (l:List Atom),vs=[v]∧IsSl u h v l∧Rep.wf l∧PowT u h∧
 (∀u' h',Step S0 u h u' h'→(∀a∈l,grB a=true)→K (.int .i64 (-1)) h')∧
 (∀u' h' (i:Nat) (a:Atom),Step S0 u h u' h'→l[i]? =some a→grB a=false→(∀x∈l.take i,grB x=true)→K (.int .i64 i) h')
def G_crGround:Ctr:=fun f vs h K _=>f=68∧C_pAtom vs h K
theorem G_crGround_ok:GOk Tryz.prog G_crGround:=by
 rintro f vs h K KP ⟨rfl,hC⟩;exact prAtom_ok hC
theorem crGround_ok{vs:List Value}{h:H}{K:Value→H→Prop}{KP:List PanicEntry→H→Prop}(hC:C_ground vs h K):HCX Tryz.prog 46 vs h K KP:=by
 obtain⟨u,v,l,rfl,hl,hw,hP,hK1,hK2⟩:=hC
 obtain⟨la,lc,rfl,q1,q2⟩:=hl.sl
 have hm:=mlen'
 refine crGround_H G_crGround G_crGround_ok _ ?_
 simp(disch:=first|omega|(simp only[zz];try omega;done)) only[↓reduceIte,go_sem,crGround_S,crGround_E]
 obtain⟨I,hI⟩: ∃I:Nat→Env→H→Prop,I=fun i σ h'=>σ 7= .slice la l.length lc∧σ 8= .int .i64 l.length∧σ 9= .int .i64 i∧i≤l.length∧(∀x∈l.take i,grB x=true)∧ ∃u',Step S0 u h u' h':=⟨_,rfl⟩
 refine wpS_loop I (fun i=>l.length - i) 0 (by
  rw[hI]
  exact⟨by simp [upd],by simp [upd],by simp [upd],Nat.zero_le _,by simp,u,.refl _ _ _⟩) ?_
 intro i σ h' hy
 rw[hI]at hy
 obtain⟨e7,e8,e9,hi,hg,u',st⟩:=hy
 by_cases hlt:i<l.length
 ·obtain⟨x,hs⟩: ∃x,l[i]? =some x:=⟨l[i],by simp [hlt]⟩
  have hwx:=hw.2 x (List.mem_of_getElem? hs)
  obtain⟨pb,po,rfl,hpb,hpu,hpz,hpr⟩:=(hl.mono st.ge).row i x hs
  rw[rep_atom]at hpr
  obtain⟨pv,hpr,hpv⟩:=hpr
  obtain⟨pva,pvc,rfl,r1,r2⟩:=hpv.sl
  simp only[sz_atom,hvs_3,List.cons.injEq,and_true]at hpr hpu hpz
  obtain⟨p0,p1,p2⟩:=hpr
  have sp:=Step.push0 S0 u' h' #[str x.1,.slice pva x.2.1.length pvc,.int .i64 x.2.2] 48
  have X:Blk (ub u' h'.size 0) (h'.push (.cells #[str x.1,.slice pva x.2.1.length pvc,.int .i64 x.2.2] 48)) h'.size [str x.1,.slice pva x.2.1.length pvc,.int .i64 x.2.2]:=(Blk.mk (by simp only[e_psz];omega) (by simp(disch:=first|omega|(simp only[zz];try omega;done)) only[go_sem]) (by simp(disch:=first|omega|(simp only[zz];try omega;done)) only[go_sem]) (by repeat (first|(refine ub_at ?_;simp only[];done)|apply ub_zero)) (by simp(disch:=first|omega|(simp only[zz];try omega;done)) only[go_sem]))
  simp(disch:=first|omega|(simp only[zz];try omega;done)) only[↓reduceIte,go_sem,crGround_L1,e7,e8,e9,hlt,p0,p1,p2]
  refine effS_call ⟨rfl,x,_,ub u' h'.size 0,rfl,hpv.mono sp.ge,hwx,hP.mono (st.trans0 sp).ge,fun u2 h2 s s2 hse=>⟨zz0,?_⟩⟩
  have X2:=X.step0 s2
  have st2:=(st.trans0 sp).trans0 s2
  have hpv2:=(hpv.mono sp.ge).mono s2.ge
  by_cases ha:atomW x=0
  ·have hsn: ¬s=[]:=fun e=>(hse.1 e) ha
   simp(disch:=first|omega|(simp only[zz];try omega;done)) only[↓reduceIte,go_sem,eq_false hsn,X2.at,X2.2.1]
   obtain⟨J,hJ⟩: ∃J:Nat→Env→H→Prop,J=fun j σ' h3=>σ' 7= .slice (some ⟨pb,po,none⟩) l.length lc∧σ' 8= .int .i64 l.length∧σ' 9= .int .i64 i∧σ' 3= .int .i64 i∧σ' 19= .slice pva x.2.1.length pvc∧σ' 20= .int .i64 x.2.1.length∧σ' 21= .int .i64 j∧j≤x.2.1.length∧
    (∀t∈x.2.1.take j,¬t.1=4)∧ ∃u3,Step S0 u h u3 h3∧IsSl u3 h3 (.slice pva x.2.1.length pvc) x.2.1:=⟨_,rfl⟩
   refine wpS_loop J (fun j=>x.2.1.length - j) 0 (by
    rw[hJ]
    exact⟨by simp [upd,e7],by simp [upd,e8],by simp [upd,e9],by simp [upd],by simp [upd],by simp [upd],by simp [upd],Nat.zero_le _,by simp,u2,st2,hpv2⟩) ?_
   clear hpv hpv2 X X2 st2 s2 sp st e7 e8 e9 hpz hpu p0 p1 p2 hpb
   intro j σ' h3 hy
   rw[hJ]at hy
   obtain⟨e7,e8,e9,e3,e19,e20,e21,hj,hng,u3,st,hpv⟩:=hy
   by_cases hlt2:j<x.2.1.length
   ·obtain⟨t,ht⟩: ∃t,x.2.1[j]? =some t:=⟨x.2.1[j],by simp [hlt2]⟩
    obtain⟨tb,to,rfl,htb,htu,htz,htr⟩:=hpv.row j t ht
    rw[rep_term]at htr
    simp only[Term.enc,sz_term,hvs_4,List.cons.injEq,and_true]at htr htu htz
    obtain⟨t0,t1,t2,t3⟩:=htr
    have sp:=Step.push0 S0 u3 h3 #[.int .i64 t.1,.int .i64 t.2.1,str t.2.2.1,.int .i64 t.2.2.2] 56
    by_cases h4:t.1=4
    ·simp(disch:=first|omega|(simp only[zz];try omega;done)) only[↓reduceIte,go_sem,crGround_L2,e3,e19,e20,e21,hlt2,t0,t1,t2,t3,eq_true h4]
     refine hK2 _ _ i x (st.trans0 sp) hs ?_ hg
     unfold grB
     rw[Bool.and_eq_false_iff]
     right
     rw[List.all_eq_false]
     exact⟨t,List.mem_of_getElem? ht,by simp [h4]⟩
    ·simp(disch:=first|omega|(simp only[zz];try omega;done)) only[↓reduceIte,go_sem,crGround_L2,e19,e20,e21,hlt2,t0,t1,t2,t3,eq_false h4]
     refine⟨j+1,?_,by omega⟩
     rw[hJ]
     refine⟨by simp [upd,e7],by simp [upd,e8],by simp [upd,e9],by simp [upd,e3],by simp [upd,e19],by simp [upd,e20],by simp [upd],hlt2,fun y hy=> ?_,_,st.trans0 sp,hpv.mono sp.ge⟩
     rw[List.take_add_one,ht,Option.toList_some,List.mem_append,List.mem_singleton]at hy
     rcases hy with hy|rfl
     ·exact hng y hy
     ·exact h4
   ·obtain rfl:j=x.2.1.length:=by omega
    rw[List.take_length]at hng
    have hgx:grB x=true:=by
     unfold grB
     rw[Bool.and_eq_true,decide_eq_true_eq,List.all_eq_true]
     exact⟨ha,fun t ht=>by simp [hng t ht]⟩
    simp(disch:=first|omega|(simp only[zz];try omega;done)) only[↓reduceIte,go_sem,crGround_L2,e9,e20,e21]
    refine⟨i+1,?_,by omega⟩
    rw[hI]
    refine⟨by simp [upd,e7],by simp [upd,e8],by simp [upd],hlt,fun y hy=> ?_,u3,st⟩
    rw[List.take_add_one,hs,Option.toList_some,List.mem_append,List.mem_singleton]at hy
    rcases hy with hy|rfl
    ·exact hg y hy
    ·exact hgx
  ·have hsn:s=[]:=hse.2 ha
   simp(disch:=first|omega|(simp only[zz];try omega;done)) only[↓reduceIte,go_sem,eq_true hsn]
   refine hK2 _ _ i x st2 hs ?_ hg
   unfold grB
   rw[decide_eq_false ha];rfl
 ·obtain rfl:i=l.length:=by omega
  rw[List.take_length]at hg
  simp(disch:=first|omega|(simp only[zz];try omega;done)) only[↓reduceIte,go_sem,crGround_L1,e8,e9]
  exact hK1 _ _ st hg
end Go.Proofs.YtmjinnbdnpedcaaGreat
end Merged
section Merged
section Merged
section Merged
namespace Edict
abbrev Byts:=List UInt8
/-! ### Terms -/
theorem ofNat_small{n:Nat}(h:n<256):(UInt8.ofNat n).toNat=n:=by
 rw[UInt8.toNat_ofNat'];omega
/-! ### Atoms and literals -/
def AtomN(a:Atom):Prop:= ∃c:Nat,((97≤c∧c≤109)∨c=122)∧a.2.1.length≤8∧a.1=[UInt8.ofNat c,UInt8.ofNat (48+a.2.1.length)]
end Edict
end Merged
section Merged
namespace Edict
/-! ### Bodies -/
/-! ### At most sixteen variables -/
def und(l:Strs):Nat:=(l.filter fun s=>decide (s=[95])).length
def posT(x:Literal):List Term:=if x.1=1 then argsOf x else []
theorem varL_pos: ∀(ls:List Literal) (vs:Strs),ls.foldl varL vs=(ls.flatMap posT).foldl varT vs
 |[],_=>rfl
 |x::l,vs=>by
  rw[List.foldl_cons,varL_pos l,List.flatMap_cons,List.foldl_append]
  congr 1
  unfold varL posT argsOf;split<;>rfl
/-! ### Clauses -/
structure ClauseN (c:Clause):Prop where
 w:clauseW c=0
 names: ∀a∈atomsC c,AtomN a
 bound:boundC c=(0,0,0)
structure FactN (a:Atom):Prop where
 g:grB a=true
 n:AtomN a
/-! ### Accepted -/
theorem arOf_none{ps:List Pred}{s:Byts}:arOf ps s=none↔s ∉ ps.map (·.1):=by
 unfold arOf
 rw[Option.map_eq_none_iff,List.find?_eq_none]
 constructor
 ·rintro h hs
  obtain⟨x,hx,rfl⟩:=List.mem_map.1 hs
  exact h x hx (by simp)
 ·intro h x hx
  simp only[decide_eq_true_eq]
  rintro rfl
  exact h (List.mem_map.2 ⟨x,hx,rfl⟩)
theorem atomW_few{a:Atom}(h:atomW a=0):a.2.1.length≤8:=by
 unfold atomW at h
 split at h
 ·split at h
  ·cases h
  ·omega
 ·cases h
theorem litW_few{x:Literal}(h:litW x=0):(termsL x).length≤8:=by
 unfold litW at h
 unfold termsL argsOf
 by_cases h1:x.1=1∨x.1=2
 ·rw[if_pos h1]at h ⊢
  split at h
  ·exact atomW_few h
  ·cases h
 ·rw[if_neg h1]
  split<;>simp
theorem firstW_all0{α:Type}{f:α→Int}: ∀{l:List α},firstW f l=0→ ∀x∈l,f x=0
 |[],_,x,h=>by simp at h
 |y::l,hf,x,h=>by
  rw[firstW]at hf
  split at hf
  ·rename_i e
   rcases List.mem_cons.1 h with rfl|h
   ·exact e
   ·exact firstW_all0 hf x h
  ·rename_i e;exact absurd hf e
theorem flat_few{α β:Type}{f:α→List β}{n:Nat}: ∀{l:List α},(∀x∈l,(f x).length≤n)→(l.flatMap f).length≤l.length*n
 |[],_=>by simp
 |x::l,h=>by
  have h1:=flat_few (l:=l) fun y hy=>h y (List.mem_cons_of_mem _ hy)
  have h2:=h x (List.mem_cons_self ..)
  rw[List.flatMap_cons,List.length_append,List.length_cons,Nat.succ_mul];omega
theorem clauseW_few{c:Clause}(h:clauseW c=0):(termsC c).length≤136:=by
 unfold clauseW at h
 split at h
 ·rename_i ha
  split at h
  ·cases h
  ·have h1:=atomW_few ha
   have h2:=flat_few (f:=termsL) (n:=8) (l:=c.2) fun x hx=>litW_few (firstW_all0 h x hx)
   unfold termsC
   rw[List.length_append];omega
 ·rename_i ha;exact absurd h ha
theorem grB_w{a:Atom}(h:grB a=true):atomW a=0:=by
 unfold grB at h
 rw[Bool.and_eq_true,decide_eq_true_eq]at h
 exact h.1
end Edict
end Merged
end Merged
section Merged
namespace Edict
def uniq(vs:Strs):Prop:= ∀i s,vs[i]? =some s→s≠[95]→s ∉ vs.take i
theorem uniq_varT{vs:Strs}(h:uniq vs)(t:Term):uniq (varT vs t):=by
 unfold varT
 split
 ·rename_i hc
  intro i s hs h95
  by_cases hi:i<vs.length
  ·rw[List.getElem?_append_left hi]at hs
   rw[List.take_append_of_le_length (by omega)]
   exact h i s hs h95
  ·have hl:=(List.getElem?_eq_some_iff.1 hs).1
   simp only[List.length_append,List.length_singleton]at hl
   obtain rfl:i=vs.length:=by omega
   rw[List.getElem?_append_right (Nat.le_refl _),Nat.sub_self]at hs
   simp only[List.getElem?_cons_zero,Option.some.injEq]at hs
   subst hs
   rw[List.take_append_of_le_length (Nat.le_refl _),List.take_length]
   exact hc.2.elim (fun h=>absurd h h95) id
 ·exact h
theorem uniq_fold: ∀(l:List Term) {vs:Strs},uniq vs→uniq (l.foldl varT vs)
 |[],_,h=>h
 |t::l,_,h=>uniq_fold l (uniq_varT h t)
theorem uniq_vars(ls:List Literal):uniq (varsF ls):=by
 have:varsF ls=(ls.flatMap posT).foldl varT []:=varL_pos _ _
 rw[this]
 exact uniq_fold _ (fun i s h=>by simp at h)
def numS:Nat→List Slot→Option Nat
 |n,[]=>some n
 |n,s::l=>if s.1 then(if s.2<0∨(n:Int)<s.2 then none else numS (if s.2=n then n+1 else n) l)else numS n l
def numP:Nat→List Pattern→Option Nat
 |n,[]=>some n
 |n,p::l=>match numS n p.2 with
  |some m=>numP m l
  |none=>none
def belowB(n:Nat)(l:List Slot):Bool:=l.all fun s=> !(s.1 && (decide (s.2<0) || decide ((n:Int)≤s.2)))
structure BoundR (r:Rule):Prop where
 few:r.2.2.2.2.1.length≤16
 num:numP 0 r.2.1=some r.2.2.2.2.1.length
 head:belowB r.2.2.2.2.1.length r.1.2=true
 neg: ∀p∈r.2.2.2.1,belowB r.2.2.2.2.1.length p.2=true
 test: ∀t∈r.2.2.1,belowB r.2.2.2.2.1.length [t.2.1,t.2.2]=true
 uniq:uniq r.2.2.2.2.1
theorem boundC_some{c:Clause}(h:boundC c=(0,0,0)):crowdF [] (termsC c)=none∧looseO c=none:=by
 unfold boundC at h
 cases hc:crowdF [] (termsC c)with
 |some t=>rw[hc]at h;cases h
 |none=>
  rw[hc]at h
  cases hl:looseO c with
  |some t=>rw[hl]at h;cases h
  |none=>exact⟨rfl,rfl⟩
theorem boundF_all: ∀{p:List Clause},boundF p=(0,0,0)→ ∀c∈p,boundC c=(0,0,0)
 |[],_,c,h=>by simp at h
 |d::p,hb,c,h=>by
  rw[boundF]at hb
  split at hb
  ·rename_i hd
   rcases List.mem_cons.1 h with rfl|h
   ·exact hd
   ·exact boundF_all hb c h
  ·rename_i hd;exact absurd hb hd
end Edict
end Merged
end Merged
end Merged
section Merged
namespace Go.Ev
open Go Edict
def ksC:List Kc:=[.int .i64,.int .i64,.str]
def encC(c:Const):Value:= .agg #[.int .i64 c.1,.int .i64 c.2.1,str c.2.2]
theorem encC_inj(a b:Const)(h:encC a=encC b):a=b:=by
 obtain⟨a1,a2,a3⟩:=a
 obtain⟨b1,b2,b3⟩:=b
 simp only[encC,Value.agg.injEq,Array.mk.injEq,List.cons.injEq,Value.int.injEq,true_and,and_true]at h
 obtain⟨h1,h2,h3⟩:=h
 rw[h1,h2,str_inj' h3]
theorem wf_i64{n:Int}(h: -9223372036854775808≤n∧n≤9223372036854775807):(Lit.int .i64 n).wf=true:=by
 have e1:IntKind.i64.min= -9223372036854775808:=by decide
 have e2:IntKind.i64.max=9223372036854775807:=by decide
 simp [Lit.wf,e1,e2,h.1,h.2]
theorem keyC{c:Const}(h:Rep.wf c):keyG ksC (encC c)=true:=by
 obtain⟨h1,h2,h3⟩:=h
 have e1:=wf_i64 h1
 have e2:=wf_i64 h2
 have e3:c.2.2.length≤maxLen:=h3
 simp only[keyG,ksC,encC,kwsOk,kwOk,e1,e2,str,decide_true,Bool.and_true,Bool.true_and,decide_eq_true_eq]
 simpa [ByteArray.size]using e3
def ksK:List Kc:=List.replicate 9 (.int .i64)
def encK(l:List Int):Value:= .agg (l.map (Value.int .i64)).toArray
theorem encK_inj(a b:List Int)(h:encK a=encK b):a=b:=by
 simp only[encK,Value.agg.injEq,Array.mk.injEq]at h
 exact List.map_inj_right (fun x y e=>by simpa using e) |>.1 h
end Go.Ev
namespace Go.Proofs.YtmjinnbdnpedcaaGreat
open Go Go.Ev Edict
variable {vs:List Value} {h:H} {K:Value→H→Prop} {KP:List PanicEntry→H→Prop}
theorem crConst_ok(hC:C_constant vs h K):HCX Tryz.prog 52 vs h K KP:=by
 obtain⟨u,t,rfl,hK⟩:=hC
 refine crConst_H (fun _ _ _ _ _=>False) (fun _ _ _ _ _ h=>h.elim) _ ?_
 simp(disch:=first|omega|(simp only[zz];try omega;done)) only[↓reduceIte,go_sem,crConst_S,crConst_E,Term.enc]
 exact hK _ _ (by repeat (first|exact Step.refl _ _ _|assumption|apply Step.pushR))
def C_numC(vs:List Value)(h:H)(K:Value→H→Prop):Prop:= ∃(u:U) (b:Nat) (l:List Const) (c:Const),vs=[.map (some b),encC c]∧MapG ksC encC h b (posL l) l.length∧l.length≤4611686018427387904∧Rep.wf c∧
 (c∈l→ ∀u' h',Step S0 u h u' h'→K (.tuple #[.int .i64 (idL l c),.bool false]) h')∧(c ∉ l→ ∀u' h',Step (fun i=>i=b) u h u' h'→MapG ksC encC h' b (posL (l++[c])) (l.length+1)→K (.tuple #[.int .i64 l.length,.bool true]) h')
theorem crNumC_ok(hC:C_numC vs h K):HCX Tryz.prog 53 vs h K KP:=by
 obtain⟨u,b,l,c,rfl,hm,hn,hw,h1,h2⟩:=hC
 refine crNumC_H (fun _ _ _ _ _=>False) (fun _ _ _ _ _ h=>h.elim) _ _ ?_
 have sp:Step S0 u h _ _:=Step.push0 S0 u h #[.int .i64 c.1,.int .i64 c.2.1,str c.2.2] 60
 have X:Blk (ub u h.size 0) (h.push (.cells #[.int .i64 c.1,.int .i64 c.2.1,str c.2.2] 60)) h.size [.int .i64 c.1,.int .i64 c.2.1,str c.2.2]:=(Blk.mk (by simp only[e_psz];omega) (by simp(disch:=first|omega|(simp only[zz];try omega;done)) only[go_sem]) (by simp(disch:=first|omega|(simp only[zz];try omega;done)) only[go_sem]) (by repeat (first|(refine ub_at ?_;simp only[];done)|apply ub_zero)) (by simp(disch:=first|omega|(simp only[zz];try omega;done)) only[go_sem]))
 have hmp:=hm.step sp (fun h=>h)
 have hbl:=hm.lt
 simp(disch:=first|omega|(simp only[zz];try omega;done)) only[↓reduceIte,go_sem,crNumC_S,crNumC_E,encC]
 refine effS_lookg (enc:=encC) (s:=c) encC_inj (keyC hw) hmp ⟨zz0,?_⟩
 by_cases hc:c∈l
 ·obtain⟨n,e⟩: ∃n,posL l c=some n:=Option.isSome_iff_exists.1 (posL_some.2 hc)
  have e2:idL l c=n:=by unfold idL;rw[e];rfl
  rw[e]
  simp only[lookV,if_true,Option.isSome_some,Option.getD_some]
  simp(disch:=first|omega|(simp only[zz];try omega;done)) only[↓reduceIte,go_sem]
  rw[←e2]
  exact h1 hc _ _ sp
 ·have e:posL l c=none:=by unfold posL;rw[if_neg hc]
  rw[e]
  simp only[lookV,if_true,Option.isSome_none,Option.getD_none]
  simp(disch:=first|omega|(simp only[zz];try omega;done)) only[↓reduceIte,go_sem]
  refine effS_lenmg hmp ⟨zz0,?_⟩
  simp(disch:=first|omega|(simp only[zz];try omega;done)) only[↓reduceIte,go_sem]
  refine effS_mputg (enc:=encC) (s:=c) (ub u h.size 0) encC_inj (keyC hw) hmp fun h' st hm'=>⟨zz0,?_⟩
  rw[e]at hm'
  simp only[Option.isSome_none,Bool.false_eq_true,if_false]at hm'
  have em:putg (posL l) c (l.length:Int)=posL (l++[c]):=by
   funext s;rw[posL_snoc hc];rfl
  rw[em]at hm'
  simp(disch:=first|omega|(simp only[zz];try omega;done)) only[↓reduceIte,go_sem]
  refine effS_lenmg hm' ⟨zz0,?_⟩
  simp(disch:=first|omega|(simp only[zz];try omega;done)) only[↓reduceIte,go_sem]
  have e3:((l.length+1:Nat):Int) - 1=l.length:=by omega
  rw[e3]
  exact h2 hc _ h' ((sp.mono (S':=fun i=>i=b) (fun _ _ h=>h.elim)).trans st (fun _ _ h=>h)) hm'
theorem keyK{l:List Int}(h:l.length=9)(hw: ∀x∈l,Rep.wf x):keyG ksK (encK l)=true:=by
 match l,h with
 |[a0,a1,a2,a3,a4,a5,a6,a7,a8],_=>
  have e:=fun x hx=>wf_i64 (hw x hx)
  simp only[List.mem_cons,List.not_mem_nil,or_false,forall_eq_or_imp,forall_eq]at e
  obtain⟨e0,e1,e2,e3,e4,e5,e6,e7,e8⟩:=e
  simp [keyG,ksK,encK,kwsOk,kwOk,List.replicate,e0,e1,e2,e3,e4,e5,e6,e7,e8]
def C_numK(vs:List Value)(h:H)(K:Value→H→Prop):Prop:= ∃(u:U) (b:Nat) (l:List (List Int)) (c:List Int),vs=[.map (some b),encK c]∧MapG ksK encK h b (posL l) l.length∧l.length≤4611686018427387904∧c.length=9∧(∀x∈c,Rep.wf x)∧
 (c∈l→ ∀u' h',Step S0 u h u' h'→K (.tuple #[.int .i64 (idL l c),.bool false]) h')∧(c ∉ l→ ∀u' h',Step (fun i=>i=b) u h u' h'→MapG ksK encK h' b (posL (l++[c])) (l.length+1)→K (.tuple #[.int .i64 l.length,.bool true]) h')
theorem crNumK_ok(hC:C_numK vs h K):HCX Tryz.prog 55 vs h K KP:=by
 obtain⟨u,b,l,c,rfl,hm,hn,hl,hw,h1,h2⟩:=hC
 have hkey:=keyK hl hw
 obtain⟨a0,a1,a2,a3,a4,a5,a6,a7,a8,rfl⟩: ∃a0 a1 a2 a3 a4 a5 a6 a7 a8,c=[a0,a1,a2,a3,a4,a5,a6,a7,a8]:=by
  match c,hl with
  |[a0,a1,a2,a3,a4,a5,a6,a7,a8],_=>exact⟨_,_,_,_,_,_,_,_,_,rfl⟩
 obtain⟨c,hc0⟩: ∃c,c=[a0,a1,a2,a3,a4,a5,a6,a7,a8]:=⟨_,rfl⟩
 have henc:encK c= .agg #[.int .i64 a0,.int .i64 a1,.int .i64 a2,.int .i64 a3,.int .i64 a4,.int .i64 a5,.int .i64 a6,.int .i64 a7,.int .i64 a8]:=by rw[hc0];rfl
 rw[←hc0]at h1 h2 hkey
 rw[←hc0]
 refine crNumK_H (fun _ _ _ _ _=>False) (fun _ _ _ _ _ h=>h.elim) _ _ ?_
 have sp:Step S0 u h _ _:=Step.push0 S0 u h #[.int .i64 a0,.int .i64 a1,.int .i64 a2,.int .i64 a3,.int .i64 a4,.int .i64 a5,.int .i64 a6,.int .i64 a7,.int .i64 a8] 134
 have hmp:=hm.step sp (fun h=>h)
 have hbl:=hm.lt
 rw[henc]
 simp(disch:=first|omega|(simp only[zz];try omega;done)) only[↓reduceIte,go_sem,crNumK_S,crNumK_E]
 rw[←henc]
 refine effS_lookg (enc:=encK) (s:=c) encK_inj hkey hmp ⟨zz0,?_⟩
 by_cases hc:c∈l
 ·obtain⟨n,e⟩: ∃n,posL l c=some n:=Option.isSome_iff_exists.1 (posL_some.2 hc)
  have e2:idL l c=n:=by unfold idL;rw[e];rfl
  rw[e]
  simp only[lookV,if_true,Option.isSome_some,Option.getD_some]
  simp(disch:=first|omega|(simp only[zz];try omega;done)) only[↓reduceIte,go_sem]
  rw[←e2]
  exact h1 hc _ _ sp
 ·have e:posL l c=none:=by unfold posL;rw[if_neg hc]
  rw[e]
  simp only[lookV,if_true,Option.isSome_none,Option.getD_none]
  simp(disch:=first|omega|(simp only[zz];try omega;done)) only[↓reduceIte,go_sem]
  refine effS_lenmg hmp ⟨zz0,?_⟩
  simp(disch:=first|omega|(simp only[zz];try omega;done)) only[↓reduceIte,go_sem]
  rw[←henc]
  refine effS_mputg (enc:=encK) (s:=c) (ub u h.size 0) encK_inj hkey hmp fun h' st hm'=>⟨zz0,?_⟩
  rw[e]at hm'
  simp only[Option.isSome_none,Bool.false_eq_true,if_false]at hm'
  have em:putg (posL l) c (l.length:Int)=posL (l++[c]):=by
   funext s;rw[posL_snoc hc];rfl
  rw[em]at hm'
  simp(disch:=first|omega|(simp only[zz];try omega;done)) only[↓reduceIte,go_sem]
  refine effS_lenmg hm' ⟨zz0,?_⟩
  simp(disch:=first|omega|(simp only[zz];try omega;done)) only[↓reduceIte,go_sem]
  have e3:((l.length+1:Nat):Int) - 1=l.length:=by omega
  rw[e3]
  exact h2 hc _ h' ((sp.mono (S':=fun i=>i=b) (fun _ _ h=>h.elim)).trans st (fun _ _ h=>h)) hm'
end Go.Proofs.YtmjinnbdnpedcaaGreat
end Merged
