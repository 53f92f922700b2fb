/- core: bound. -/
import Derived.Test.YtmjinnbdnpedcaaGreatKcD
namespace Edict
theorem looseO_none{c:Clause}(h: ∀t∈allTerms c,looseB (varsF c.2) t=false):looseO c=none:=by
 unfold looseO;rw[List.find?_eq_none];intro t ht;rw[h t ht];simp
theorem looseO_some{c:Clause}{i:Nat}{t:Term}(hi:(allTerms c)[i]? =some t)(hno: ∀s∈(allTerms c).take i,looseB (varsF c.2) s=false)(hb:looseB (varsF c.2) t=true):looseO c=some t:=by
 unfold looseO
 have key: ∀(l:List Term) (i:Nat),l[i]? =some t→(∀s∈l.take i,looseB (varsF c.2) s=false)→l.find? (looseB (varsF c.2))=some t:=by
  intro l
  induction l with
  |nil=>intro i h;simp at h
  |cons a l ih=>
   intro i h hn
   cases i with
   |zero=>simp only[List.getElem?_cons_zero,Option.some.injEq]at h;subst h;simp [hb]
   |succ i=>
    have ha:looseB (varsF c.2) a=false:=hn a (by simp)
    rw[List.find?_cons_of_neg (by simp [ha])]
    exact ih i (by simpa using h) (fun s hs=>hn s (by simp [hs]))
 exact key _ i hi hno
end Edict
namespace Go.Ev
open Go
theorem set3{h:H}{b:Nat}{v0 v1 v2:Value}(hz:hsz h b=3):hsz (hsets h b 0 [v0,v1,v2]) b=3∧Go.Ev.hv (hsets h b 0 [v0,v1,v2]) b 0=v0∧Go.Ev.hv (hsets h b 0 [v0,v1,v2]) b 1=v1∧Go.Ev.hv (hsets h b 0 [v0,v1,v2]) b 2=v2:=by
 have hl:0+[v0,v1,v2].length≤hsz h b:=by rw[hz];simp
 refine⟨by rw[hsets_hsz,hz],?_,?_,?_⟩<;>(rw[hsets_hv _ _ _ _ _ hl];simp)
end Go.Ev
namespace Go.Proofs.YtmjinnbdnpedcaaGreat
open Go Go.Ev Edict
def fV(f:Flt):Value:= .agg #[.int .i64 f.1,.int .i64 f.2.1,.int .i64 f.2.2]
def C_bound(vs:List Value)(h:H)(K:Value→H→Prop):Prop:= ∃(u:U) (v:Value) (cs:List Clause),vs=[.agg #[v]]∧IsSl u h v cs∧(∀c∈cs,Rep.bulk c≤1048576)∧ ∀u' h',Step S0 u h u' h'→K (fV (boundF cs)) h'
def G_crBound:Ctr:=fun f vs h K _=>(f=25∧C_ofC termsC vs h K)∨(f=48∧C_crowd vs h K)∨(f=49∧C_lits (fun ls=>ls.flatMap askL) vs h K)∨(f=50∧C_unb vs h K)
theorem G_crBound_ok:GOk Tryz.prog G_crBound:=by
 rintro f vs h K KP (⟨rfl,hC⟩|⟨rfl,hC⟩|⟨rfl,hC⟩|⟨rfl,hC⟩)
 ·exact crAll_ok hC
 ·exact crCrowd_ok hC
 ·exact crAsked_ok hC
 ·exact crUnb_ok hC
theorem crBound_ok{vs:List Value}{h:H}{K:Value→H→Prop}{KP:List PanicEntry→H→Prop}(hC:C_bound vs h K):HCX Tryz.prog 20 vs h K KP:=by
 obtain⟨u,v,cs,rfl,hl,hbk,hK⟩:=hC
 obtain⟨la,lc,rfl,q1,q2⟩:=hl.sl
 have hm:=mlen'
 refine crBound_H G_crBound G_crBound_ok _ ?_
 simp(disch:=first|omega|(simp only[zz];try omega;done)) only[↓reduceIte,go_sem,crBound_S,crBound_E]
 have sA:Step S0 u h (ub u h.size 0) (h.push (.cells #[.slice la cs.length lc] 24)):=Step.push0 S0 u h _ _
 have sB:Step S0 (ub u h.size 0) (h.push (.cells #[.slice la cs.length lc] 24)) (ub (ub u h.size 0) (h.size+1) 0) ((h.push (.cells #[.slice la cs.length lc] 24)).push (.cells #[.int .i64 0,.int .i64 0,.int .i64 0] 34)):=by
  have:=Step.push0 S0 (ub u h.size 0) (h.push (.cells #[.slice la cs.length lc] 24)) #[.int .i64 0,.int .i64 0,.int .i64 0] 34
  simpa only[e_psz]using this
 have X0:Blk (ub (ub u h.size 0) (h.size+1) 0) ((h.push (.cells #[.slice la cs.length lc] 24)).push (.cells #[.int .i64 0,.int .i64 0,.int .i64 0] 34)) (h.size+1) [.int .i64 0,.int .i64 0,.int .i64 0]:=(Blk.mk (by simp only[e_psz];omega) (by simp(disch:=first|omega|(simp only[zz];try omega;done)) only[go_sem]) (by simp(disch:=first|omega|(simp only[zz];try omega;done)) only[go_sem]) (by repeat (first|(refine ub_at ?_;simp only[];done)|apply ub_zero)) (by simp(disch:=first|omega|(simp only[zz];try omega;done)) only[go_sem]))
 obtain⟨I,hI⟩: ∃I:Nat→Env→H→Prop,I=fun i σ h'=>σ 2= .pointer (some ⟨h.size+1,0,none⟩)∧σ 10= .slice la cs.length lc∧σ 11= .int .i64 cs.length∧σ 12= .int .i64 i∧i≤cs.length∧
  ∃u',Step S0 u h u' h'∧Blk u' h' (h.size+1) [.int .i64 0,.int .i64 0,.int .i64 0]∧boundF cs=boundF (cs.drop i):=⟨_,rfl⟩
 refine wpS_loop I (fun i=>cs.length - i) 0 (by
  rw[hI]
  exact⟨by simp [upd],by simp [upd],by simp [upd],by simp [upd],Nat.zero_le _,_,sA.trans0 sB,X0,rfl⟩) ?_
 clear X0 sA sB
 intro i σ h' hy
 rw[hI]at hy
 obtain⟨e2,e10,e11,e12,hi,u',st,X,heq⟩:=hy
 by_cases hlt:i<cs.length
 ·obtain⟨c,hs⟩: ∃c,cs[i]? =some c:=⟨cs[i],by simp [hlt]⟩
  have hdr:cs.drop i=c::cs.drop (i+1):=by
   obtain⟨hi',rfl⟩:=List.getElem?_eq_some_iff.1 hs
   exact List.drop_eq_getElem_cons hi'
  have hcb:Rep.bulk c≤1048576:=hbk c (List.mem_of_getElem? hs)
  obtain⟨pb,po,rfl,hpb,hpu,hpz,hpr⟩:=(hl.mono st.ge).row i c hs
  have hprs:=hpr
  rw[rep_clause]at hpr
  obtain⟨va,vb,hpr,hh,hb⟩:=hpr
  obtain⟨ha,hc,rfl,-,-⟩:=hh.sl
  obtain⟨ba,bc,rfl,-,-⟩:=hb.sl
  have hcells:=hpr
  simp only[sz_clause,hvs_4,List.cons.injEq,and_true]at hpr hpu hpz
  obtain⟨p0,p1,p2,p3⟩:=hpr
  have sp:=Step.push0 S0 u' h' #[str c.1.1,.slice ha c.1.2.1.length hc,.int .i64 c.1.2.2,.slice ba c.2.length bc] 51
  have Y:Blk (ub u' h'.size 0) (h'.push (.cells #[str c.1.1,.slice ha c.1.2.1.length hc,.int .i64 c.1.2.2,.slice ba c.2.length bc] 51)) h'.size [str c.1.1,.slice ha c.1.2.1.length hc,.int .i64 c.1.2.2,.slice ba c.2.length bc]:=(Blk.mk (by simp only[e_psz];omega) (by simp(disch:=first|omega|(simp only[zz];try omega;done)) only[go_sem]) (by simp(disch:=first|omega|(simp only[zz];try omega;done)) only[go_sem]) (by repeat (first|(refine ub_at ?_;simp only[];done)|apply ub_zero)) (by simp(disch:=first|omega|(simp only[zz];try omega;done)) only[go_sem]))
  have Xp:=X.step0 sp
  simp(disch:=first|omega|(simp only[zz];try omega;done)) only[↓reduceIte,go_sem,crBound_L1,e10,e11,e12,hlt,p0,p1,p2,p3]
  rw[show hvs h' pb (po+i*Rep.sz Clause) (Rep.sz Clause)=[str c.1.1,.slice ha c.1.2.1.length hc,.int .i64 c.1.2.2,.slice ba c.2.length bc]from hcells]at hprs
  obtain⟨hb1,hb2,hb3⟩:=clause_bulkT hcb
  obtain⟨-,-,hb4⟩:=clause_bulk hcb
  have hTl:(termsC c).length≤4194304:=by unfold termsC;rw[List.length_append];omega
  refine effS_call (.inl ⟨rfl,ub u' h'.size 0,c,_,rfl,Rep.mono sp.ge hprs,hcb,fun u1 h1 w s1 hw=>⟨zz0,?_⟩⟩)
  simp(disch:=first|omega|(simp only[zz];try omega;done)) only[↓reduceIte,go_sem]
  refine effS_call (.inr (.inl ⟨rfl,u1,w,termsC c,rfl,hw,hTl,fun u2 h2 s2=>⟨zz0,?_⟩⟩))
  have Y2:=(Y.step0 s1).step0 s2
  have X2:=(Xp.step0 s1).step0 s2
  have st2:=((st.trans0 sp).trans0 s1).trans0 s2
  have hy2:=Y2.1
  have hx2:=X2.1
  have hB:boundF (c::cs.drop (i+1))=if boundC c=(0,0,0)then boundF (cs.drop (i+1))else boundC c:=rfl
  rw[hdr,hB]at heq
  cases hcr:crowdF [] (termsC c)with
  |some t=>
   have hbc:boundC c=(32,0,t.2.2.2):=by unfold boundC;rw[hcr]
   rw[hbc,if_neg (by simp)]at heq
   simp only[Option.getD_some,Option.isSome_some,Term.enc]
   simp(disch:=first|omega|(simp only[zz];try omega;done)) only[↓reduceIte,go_sem,e2,X2.2.1,X2.2.2.1]
   obtain⟨z0,z1,z2,z3⟩:=set3 (v0:= .int .i64 32) (v1:= .int .i64 0) (v2:= .int .i64 t.2.2.2) X2.2.1
   have hXl:h.size+1<(hsets h2 (h.size+1) 0 [.int .i64 32,.int .i64 0,.int .i64 t.2.2.2]).size:=by rw[hsets_size];exact hx2
   rw[e_hszp hXl,e_hvp hXl,e_hvp hXl,e_hvp hXl,z0,z1,z2,z3]
   refine⟨Nat.le_refl _,?_⟩
   have sw:=Step.setsR (b:=h.size+1) (o:=0) (l:=[.int .i64 32,.int .i64 0,.int .i64 t.2.2.2]) st2 (.inl (Nat.le_succ _)) (by rw[X2.2.2.2.1];exact Nat.le_refl _) (by rw[X2.2.1];simp)
   have:=hK _ _ (sw.trans0 (Step.push0 S0 _ _ #[.int .i64 t.1,.int .i64 t.2.1,str t.2.2.1,.int .i64 t.2.2.2] 56))
   rw[heq]at this
   exact this
  |none=>
   simp only[Option.getD_none,Option.isSome_none,Term.enc,term0]
   simp(disch:=first|omega|(simp only[zz];try omega;done)) only[↓reduceIte,go_sem,Y2.at,Y2.2.1]
   have spA:=Step.push0 S0 u2 h2 #[.int .i64 0,.int .i64 0,str [],.int .i64 0] 56
   have o1:=own_empty (α:=Term) (h2.size+1) (ub u2 h2.size 0) (h2.push (.cells #[.int .i64 0,.int .i64 0,str [],.int .i64 0] 56)) (by simp only[e_psz];omega) 56
   have spB:=Step.push0 S0 (ub u2 h2.size 0) (h2.push (.cells #[.int .i64 0,.int .i64 0,str [],.int .i64 0] 56)) #[] 56
   have YB:=(Y2.step0 spA).step0 spB
   have XB:=(X2.step0 spA).step0 spB
   simp only[e_psz]at o1 spB YB XB
   have s02:=(sp.trans0 s1).trans0 s2
   have sB:=(s02.trans0 spA).trans0 spB
   have stB:=(st2.trans0 spA).trans0 spB
   refine effS_app (k:=h2.size+1) o1 (hh.mono sB.ge) rfl rfl (by simp only[e_psz];omega) (by simp only[List.length_nil];omega) fun a n k u3 h3 ho3 s3=> ?_
   have hg3: ∀j,OwnB (.slice (some ⟨h2.size+1,0,none⟩) 0 0) j→h2.size+1≤j:=fun j hj=>o1.ge hj
   have Y3:=YB.step s3 (fun hj=>by have:=hg3 _ hj;omega)
   have X3:=XB.step s3 (fun hj=>by have:=hg3 _ hj;omega)
   have s3':=sB.trans s3 (fun j hj hB=>by have:=hg3 j hB;have:=s02.ge.sz;omega)
   have st3:Step S0 u h u3 h3:=stB.trans s3 (fun j hj hB=>by have:=hg3 j hB;have:=st2.ge.sz;omega)
   refine⟨by simp(disch:=first|omega|(simp only[zz];try omega;done)) only[↓reduceIte,go_sem,YB.at,Y3.at,Y3.2.1],?_⟩
   simp(disch:=first|omega|(simp only[zz];try omega;done)) only[↓reduceIte,go_sem]
   refine effS_call (.inr (.inr (.inl ⟨rfl,u3,_,c.2,rfl,hb.mono s3'.ge,hb1,fun u4 h4 w s4 hw=>⟨zz0,?_⟩⟩)))
   have ho4:=ho3.step0 s4
   have hz3:=s3.ge.sz
   have hz4:=s4.ge.sz
   simp only[e_psz]at hz3
   simp(disch:=first|omega|(simp only[zz];try omega;done)) only[↓reduceIte,go_sem]
   refine effS_app ho4 hw rfl rfl (by omega) (by simp only[List.nil_append];omega) fun a5 n5 k5 u5 h5 ho5 s5=>⟨zz0,?_⟩
   have hg5: ∀j,OwnB (.slice a n k) j→h2.size+1≤j:=fun j hj=>ho4.ge hj
   have Y5:=(Y3.step0 s4).step s5 (fun hj=>by have:=hg5 _ hj;omega)
   have X5:=(X3.step0 s4).step s5 (fun hj=>by have:=hg5 _ hj;omega)
   have s5':=(s3'.trans0 s4).trans s5 (fun j hj hB=>by have:=hg5 j hB;have:=s02.ge.sz;omega)
   have st5:Step S0 u h u5 h5:=(st3.trans0 s4).trans s5 (fun j hj hB=>by have:=hg5 j hB;have:=st2.ge.sz;omega)
   simp only[List.nil_append]at ho5
   simp(disch:=first|omega|(simp only[zz];try omega;done)) only[↓reduceIte,go_sem,Y5.at,Y5.2.1]
   have hal:(allTerms c).length≤4194304:=by unfold allTerms;rw[List.length_append];omega
   refine effS_call (.inr (.inr (.inr ⟨rfl,u5,_,_,allTerms c,c.2,rfl,ho5.isSl,hb.mono s5'.ge,hb1,hal,fun u6 h6 s6=>⟨zz0,?_⟩⟩)))
   have X6:=X5.step0 s6
   have hx6:=X6.1
   have st6:=st5.trans0 s6
   have hts:=ho5.isSl.mono s6.ge
   rcases loose_cases (varsF c.2) (allTerms c)with hno|⟨j,t,hj,hno,hlb⟩
   ·have e:=looseI_none (k:=0) hno
    have hbc:boundC c=(0,0,0):=by unfold boundC;rw[hcr,looseO_none hno]
    rw[hbc,if_pos rfl]at heq
    simp(disch:=first|omega|(simp only[zz];try omega;done)) only[↓reduceIte,go_sem,e.1,e12]
    refine⟨i+1,?_,by omega⟩
    rw[hI]
    exact⟨by simp [upd,e2],by simp [upd,e10],by simp [upd,e11],by simp [upd],hlt,u6,st6,X6,heq⟩
   ·have e:=looseI_some (k:=0) hno hj hlb
    have hbc:boundC c=(33,0,t.2.2.2):=by unfold boundC;rw[hcr,looseO_some hj hno hlb]
    rw[hbc,if_neg (by simp)]at heq
    have e1:looseI (varsF c.2) (allTerms c) 0=(j:Int):=by rw[e.1];omega
    obtain⟨tb,to,rfl,htb,htu,htz,htr⟩:=hts.row j t hj
    obtain⟨ta,tc,hta,-,-⟩:=hts.sl
    obtain⟨-,rfl,-⟩:=Value.slice.inj hta
    rw[rep_term]at htr
    simp only[Term.enc,sz_term,hvs_4,List.cons.injEq,and_true]at htr htu htz
    obtain⟨t0,t1,t2,t3⟩:=htr
    have hil:=(List.getElem?_eq_some_iff.1 hj).1
    simp(disch:=first|omega|(simp only[zz];try omega;done)) only[↓reduceIte,go_sem,e1,t3,e2,X6.2.1,X6.2.2.1]
    obtain⟨z0,z1,z2,z3⟩:=set3 (v0:= .int .i64 33) (v1:= .int .i64 0) (v2:= .int .i64 t.2.2.2) X6.2.1
    rw[z0,z1,z2,z3]
    refine⟨by unfold allTerms at hil;rw[List.length_append]at hil;exact hil,Nat.le_refl _,?_⟩
    have:=hK _ _ (Step.setsR (b:=h.size+1) (o:=0) (l:=[.int .i64 33,.int .i64 0,.int .i64 t.2.2.2]) st6 (.inl (Nat.le_succ _)) (by rw[X6.2.2.2.1];exact Nat.le_refl _) (by rw[X6.2.1];simp))
    rw[heq]at this
    exact this
 ·obtain rfl:i=cs.length:=by omega
  rw[List.drop_length]at heq
  have heq:boundF cs=(0,0,0):=heq
  simp(disch:=first|omega|(simp only[zz];try omega;done)) only[↓reduceIte,go_sem,crBound_L1,e2,e11,e12,X.2.1,X.2.2.1]
  obtain⟨z0,z1,z2,z3⟩:=set3 (v0:= .int .i64 0) (v1:= .int .i64 0) (v2:= .int .i64 0) X.2.1
  rw[z0,z1,z2,z3]
  refine⟨Nat.le_refl _,?_⟩
  have:=hK _ _ (Step.setsR (b:=h.size+1) (o:=0) (l:=[.int .i64 0,.int .i64 0,.int .i64 0]) st (.inl (Nat.le_succ _)) (by rw[X.2.2.2.1];exact Nat.le_refl _) (by rw[X.2.1];simp))
  rw[heq]at this
  exact this
end Go.Proofs.YtmjinnbdnpedcaaGreat
