import Derived.Test.YtmjinnbdnpedcaaGreatKcS
import Derived.Test.YtmjinnbdnpedcaaGreatKbP
import Derived.Test.YtmjinnbdnpedcaaGreatKpA
section Merged
namespace Go.Proofs.YtmjinnbdnpedcaaGreat
open Go Go.Ev Edict
variable {vs:List Value} {h:H} {K:Value→H→Prop} {KP:List PanicEntry→H→Prop}
theorem crAtoms_ok(hC:C_lits atomsL vs h K):HCX Tryz.prog 23 vs h K KP:=by
 obtain⟨u,v,ls,rfl,hl,hbk,hK⟩:=hC
 obtain⟨la,lc,rfl,q1,q2⟩:=hl.sl
 have hm:=mlen'
 have hll:=bulkL_pos ls
 refine crAtoms_H (fun _ _ _ _ _=>False) (fun _ _ _ _ _ h=>h.elim) _ ?_
 simp(disch:=first|omega|(simp only[zz];try omega;done)) only[↓reduceIte,go_sem,crAtoms_S,crAtoms_E]
 obtain⟨I,hI⟩: ∃I:Nat→Env→H→Prop,I=fun i σ h'=>σ 6= .slice la ls.length lc∧σ 7= .int .i64 ls.length∧σ 8= .int .i64 i∧i≤ls.length∧ ∃u',Step S0 u h u' h'∧Own h.size u' h' (σ 3) (atomsL (ls.take i)):=⟨_,rfl⟩
 refine wpS_loop I (fun i=>ls.length - i) 0 (by rw[hI];exact⟨by simp [upd],by simp [upd],by simp [upd],Nat.zero_le _,u,.refl _ _ _,by simp only[upd];exact .nil _ _ _⟩) ?_
 intro i σ h' hy
 rw[hI]at hy
 obtain⟨e6,e7,e8,hi,u',st,ho⟩:=hy
 by_cases hlt:i<ls.length
 ·skip
  obtain⟨x,hs⟩: ∃x,ls[i]? =some x:=⟨ls[i],by simp [hlt]⟩
  obtain⟨pb,po,rfl,hpb,hpu,hpz,hpr⟩:=(hl.mono st.ge).row i x hs
  have hprs:=hpr
  rw[rep_literal]at hpr
  obtain⟨pv,hpr,hpv⟩:=hpr
  obtain⟨pva,pvc,rfl,r1,r2⟩:=hpv.sl
  have hcs:hvs h' pb (po+i*Rep.sz Literal) (Rep.sz Literal)= #[.int .i64 x.1,str x.2.1.1,.slice pva x.2.1.2.1.length pvc,.int .i64 x.2.1.2.2,.int .i64 x.2.2.1,.int .i64 x.2.2.2.1.1,.int .i64 x.2.2.2.1.2.1,str x.2.2.2.1.2.2.1,.int .i64 x.2.2.2.1.2.2.2,.int .i64 x.2.2.2.2.1.1,.int .i64 x.2.2.2.2.1.2.1,str x.2.2.2.2.1.2.2.1,.int .i64 x.2.2.2.2.1.2.2.2,.int .i64 x.2.2.2.2.2].toList:=by rw[hpr];rfl
  rw[hcs]at hprs
  simp only[Term.enc,sz_literal,hvs_14,List.cons_append,List.nil_append,List.cons.injEq,and_true]at hpr hpu hpz
  obtain⟨p0,p1,p2,p3,p4,p5,p6,p7,p8,p9,p10,p11,p12,p13⟩:=hpr
  have sp:=Step.push0 S0 u' h' #[.int .i64 x.1,str x.2.1.1,.slice pva x.2.1.2.1.length pvc,.int .i64 x.2.1.2.2,.int .i64 x.2.2.1,.int .i64 x.2.2.2.1.1,.int .i64 x.2.2.2.1.2.1,str x.2.2.2.1.2.2.1,.int .i64 x.2.2.2.1.2.2.2,.int .i64 x.2.2.2.2.1.1,.int .i64 x.2.2.2.2.1.2.1,str x.2.2.2.2.1.2.2.1,.int .i64 x.2.2.2.2.1.2.2.2,.int .i64 x.2.2.2.2.2] 119
  have hos:=ho.step0 sp
  have hk0:h.size≤h'.size:=st.ge.sz
  have hsn:atomsL (ls.take (i+1))=atomsL (ls.take i)++atomsL [x]:=by unfold atomsL;rw[List.take_add_one,hs,Option.toList_some,List.filter_append,List.map_append]
  have hlen:(atomsL (ls.take i)).length≤ls.length:=by unfold atomsL;rw[List.length_map];exact Nat.le_trans (List.length_filter_le ..) (by rw[List.length_take];exact Nat.min_le_right _ _)
  have hne: ∀b,OwnB (σ 3) b→h.size≤b:=fun b hb=>ho.ge hb
  by_cases hk:x.1=1∨x.1=2
  ·have hr:atomsL [x]=[x.2.1]:=by unfold atomsL isA;simp [hk]
   have fin: ∀(r:List St) (Q:Env→H→Prop) (KP':List PanicEntry→H→Prop) (σ':Env) (p:Nat) (h0:H) (u0:U),p=h0.size→Own h.size u0 h0 (σ 3) (atomsL (ls.take i))→Step S0 u h u0 h0→IsSl u0 h0 (.slice pva x.2.1.2.1.length pvc) x.2.1.2.1→(∀a n c u3 h3,Own h.size u3 h3 (.slice a n c) (atomsL (ls.take i)++[x.2.1])→Step S0 u h u3 h3→wpSts (fun _ _ _ _ _=>False) r Q KP' (updo σ' (some 24) (.slice a n c)) h3)→
     effS (fun _ _ _ _ _=>False) (.app 48 3 48 [str [],.slice none 0 0,.int .i64 0]) (some 24) [] r Q KP' [σ 3,.slice (some ⟨p,0,none⟩) 1 1] σ' (h0.push (.cells #[str x.2.1.1,.slice pva x.2.1.2.1.length pvc,.int .i64 x.2.1.2.2] 48)):=fun r Q KP' σ' p h0 u0 hp ho0 s0 i0 hq=>
    effS_app1p hp ho0 (x:=x.2.1) (cs:=[str x.2.1.1,.slice pva x.2.1.2.1.length pvc,.int .i64 x.2.1.2.2]) (by rw[rep_atom];exact⟨_,rfl,i0⟩) rfl rfl s0.ge.sz (by omega) fun a n c u3 h3 ho3 s3=>⟨by simp only[e_stab0],hq a n c u3 h3 ho3 (s0.trans s3 (fun b hb hB=>by have:=ho0.ge hB;omega))⟩
   have next: ∀(σ':Env) (u3:U) (h3:H),σ' 6=σ 6→σ' 7=σ 7→σ' 8= .int .i64 ((i:Int)+1)→Step S0 u h u3 h3→Own h.size u3 h3 (σ' 3) (atomsL (ls.take i)++[x.2.1])→ ∃y,I y σ' h3∧ls.length - y<ls.length - i:=fun σ' u3 h3 g6 g7 g8 sx ho'=>by
    refine⟨i+1,?_,by omega⟩
    rw[hI]
    exact⟨by rw[g6,e6],by rw[g7,e7],g8,hlt,u3,sx,by rw[hsn,hr];exact ho'⟩
   rcases hk with hk|hk
   ·simp(disch:=first|omega|(simp only[zz];try omega;done)) only[↓reduceIte,go_sem,crAtoms_L1,e6,e7,e8,hlt,p0,p1,p2,p3,p4,p5,p6,p7,p8,p9,p10,p11,p12,p13,eq_true hk]
    refine fin _ _ _ _ (h'.size+1) _ _ (by simp only[e_psz]) hos (st.trans0 sp) (hpv.mono sp.ge) fun a n c u3 h3 ho3 st3=> ?_
    simp(disch:=first|omega|(simp only[zz];try omega;done)) only[↓reduceIte,go_sem,e8]
    exact next _ u3 h3 (by simp [upd]) (by simp [upd]) (by simp [upd]) st3 (by simpa [upd]using ho3)
   ·simp(disch:=first|omega|(simp only[zz];try omega;done)) only[↓reduceIte,go_sem,crAtoms_L1,e6,e7,e8,hlt,p0,p1,p2,p3,p4,p5,p6,p7,p8,p9,p10,p11,p12,p13,eq_true hk,eq_false (show¬x.1=1 by omega)]
    refine fin _ _ _ _ (h'.size+1) _ _ (by simp only[e_psz]) hos (st.trans0 sp) (hpv.mono sp.ge) fun a n c u3 h3 ho3 st3=> ?_
    simp(disch:=first|omega|(simp only[zz];try omega;done)) only[↓reduceIte,go_sem,e8]
    exact next _ u3 h3 (by simp [upd]) (by simp [upd]) (by simp [upd]) st3 (by simpa [upd]using ho3)
  ·have hr:atomsL [x]=[]:=by unfold atomsL isA;simp [hk]
   simp(disch:=first|omega|(simp only[zz];try omega;done)) only[↓reduceIte,go_sem,crAtoms_L1,e6,e7,e8,hlt,p0,p1,p2,p3,p4,p5,p6,p7,p8,p9,p10,p11,p12,p13,eq_false (show¬x.1=1 by omega),eq_false (show¬x.1=2 by omega)]
   refine⟨i+1,?_,by omega⟩
   rw[hI]
   exact⟨by simp [upd,e6],by simp [upd,e7],by simp [upd],hlt,_,st.trans0 sp,by rw[hsn,hr,List.append_nil];simpa [upd]using hos⟩
 ·obtain rfl:i=ls.length:=by omega
  rw[List.take_length]at ho
  simp(disch:=first|omega|(simp only[zz];try omega;done)) only[↓reduceIte,go_sem,crAtoms_L1,e7,e8]
  exact hK _ _ _ st ho.isSl
theorem clause_bulkT{c:Clause}(hb:Rep.bulk c≤1048576):bulkL c.2≤1048576∧c.1.2.1.length≤1048576∧(c.2.flatMap termsL).length≤1048576:=by
 have h2:=flat_bulk termsL_len c.2
 have h3:Rep.bulk c=(c.1.1.length+1+(bulkL c.1.2.1+1))+bulkL c.2:=rfl
 have h4:=bulkL_pos c.1.2.1
 omega
def C_ofC{α:Type} [Rep α](f:Clause→List α)(vs:List Value)(h:H)(K:Value→H→Prop):Prop:= ∃(u:U) (c:Clause) (l:List Value),vs=[.agg l.toArray]∧Rep.rep u h c l∧Rep.bulk c≤1048576∧ ∀u' h' w,Step S0 u h u' h'→IsSl u' h' w (f c)→K w h'
theorem crAll_ok(hC:C_ofC termsC vs h K):HCX Tryz.prog 25 vs h K KP:=by
 obtain⟨u,c,l,rfl,hr,hbk,hK⟩:=hC
 obtain⟨hb1,hb2,hb3⟩:=clause_bulkT hbk
 rw[rep_clause]at hr
 obtain⟨va,vb,rfl,hh,hb⟩:=hr
 obtain⟨ha,hc,rfl,-,-⟩:=hh.sl
 obtain⟨ba,bc,rfl,-,-⟩:=hb.sl
 have hm:=mlen'
 refine crAll_H G_crAsked G_crAsked_ok _ ?_
 simp(disch:=first|omega|(simp only[zz];try omega;done)) only[↓reduceIte,go_sem,crAll_S,crAll_E]
 have sp:Step S0 u h _ _:=Step.push0 S0 u h #[str c.1.1,.slice ha c.1.2.1.length hc,.int .i64 c.1.2.2,.slice ba c.2.length bc] 51
 have o1:=own_empty (α:=Term) (h.size+1) (ub u h.size 0) (h.push (.cells #[str c.1.1,.slice ha c.1.2.1.length hc,.int .i64 c.1.2.2,.slice ba c.2.length bc] 51)) (by simp only[e_psz];omega) 56
 have sp2:=Step.push0 S0 (ub u h.size 0) (h.push (.cells #[str c.1.1,.slice ha c.1.2.1.length hc,.int .i64 c.1.2.2,.slice ba c.2.length bc] 51)) #[] 56
 have B1:Blk (ub u h.size 0) (h.push (.cells #[str c.1.1,.slice ha c.1.2.1.length hc,.int .i64 c.1.2.2,.slice ba c.2.length bc] 51)) h.size [str c.1.1,.slice ha c.1.2.1.length hc,.int .i64 c.1.2.2,.slice ba c.2.length bc]:=(Blk.mk (by simp only[e_psz];omega) (by simp(disch:=first|omega|(simp only[zz];try omega;done)) only[go_sem]) (by simp(disch:=first|omega|(simp only[zz];try omega;done)) only[go_sem]) (by repeat (first|(refine ub_at ?_;simp only[];done)|apply ub_zero)) (by simp(disch:=first|omega|(simp only[zz];try omega;done)) only[go_sem]))
 have B2:=B1.step0 sp2
 simp only[e_psz]at o1 sp2 B2
 have st2:=sp.trans0 sp2
 refine effS_app (k:=h.size+1) o1 (hh.mono st2.ge) rfl rfl (by simp only[e_psz];omega) (by simp only[List.length_nil];omega) fun a n k u3 h3 ho3 s3=> ?_
 have B3:=B2.step s3 (by rintro ⟨o,n',c',e⟩;simp only[Value.slice.injEq,Option.some.injEq,Addr.mk.injEq]at e;omega)
 have s3':Step S0 u h u3 h3:=st2.trans s3 (fun b hb hB=>by have:=o1.ge hB;omega)
 refine⟨by simp(disch:=first|omega|(simp only[zz];try omega;done)) only[↓reduceIte,go_sem,B2.at,B3.at,B3.2.1],?_⟩
 simp(disch:=first|omega|(simp only[zz];try omega;done)) only[↓reduceIte,go_sem]
 refine effS_call ⟨rfl,u3,_,c.2,rfl,hb.mono s3'.ge,hb1,fun u4 h4 w s4 hw=>⟨zz0,?_⟩⟩
 have ho4:=ho3.step0 s4
 simp(disch:=first|omega|(simp only[zz];try omega;done)) only[↓reduceIte,go_sem]
 refine effS_app ho4 hw rfl rfl (Nat.le_trans (Nat.succ_le_of_lt B3.1) s4.ge.sz) (by simp only[List.nil_append];omega) fun a5 n5 k5 u5 h5 ho5 s5=>⟨zz0,?_⟩
 have hlt3: ∀b,OwnB (.slice a n k) b→h.size+1≤b:=fun b hb=>ho4.ge hb
 have s5':Step S0 u h u5 h5:=(s3'.trans0 s4).trans s5 (fun b hb hB=>by have:=ho4.ge hB;omega)
 simp only[List.nil_append]at ho5
 simp(disch:=first|omega|(simp only[zz];try omega;done)) only[↓reduceIte,go_sem]
 exact hK _ _ _ s5' ho5.isSl
end Go.Proofs.YtmjinnbdnpedcaaGreat
end Merged
section Merged
namespace Edict
theorem name_len{s:List UInt8}(h:nameB s=true):s.length≤64:=by
 unfold nameB at h
 simp only[Bool.and_eq_true]at h
 have:=h.2
 cases s with
 |nil=>exact Nat.zero_le _
 |cons b r=>simp only[wordB,Bool.and_eq_true,decide_eq_true_eq]at this;simpa using this.1
theorem var_len{s:List UInt8}(h:varB s=true):s.length≤64:=by
 unfold varB at h
 cases s with
 |nil=>exact Nat.zero_le _
 |cons b r=>simp only[wordB,Bool.and_eq_true,decide_eq_true_eq]at h;simpa using h.1
end Edict
namespace Go.Proofs.YtmjinnbdnpedcaaGreat
open Go Go.Ev Edict
variable {vs:List Value} {h:H} {K:Value→H→Prop} {KP:List PanicEntry→H→Prop}
def C_text(vs:List Value)(h:H)(K:Value→H→Prop):Prop:= ∃(u:U) (c:Const),vs=[.agg #[.int .i64 c.1,.int .i64 c.2.1,str c.2.2]]∧Rep.wf c∧PowT u h∧ ∀u' h' (l:List UInt8),Step S0 u h u' h'→l.length≤2048→K (str l) h'
def G_syText:Ctr:=fun f vs h K _=>(f=106∧C_data (vB validB) vs h K)∨(f=136∧C_fmt vs h K)∨(f=137∧C_quoted vs h K)
theorem G_syText_ok:GOk Tryz.prog G_syText:=by
 rintro f vs h K KP (⟨rfl,hC⟩|⟨rfl,hC⟩|⟨rfl,hC⟩)
 ·exact symValid_ok hC
 ·exact cvFormatInt_ok hC
 ·exact syQuoted_ok hC
theorem syText_ok(hC:C_text vs h K):HCX Tryz.prog 135 vs h K KP:=by
 obtain⟨u,⟨kk,ki,ks⟩,rfl,hw,hP,hK⟩:=hC
 have hw':=hw
 obtain⟨hw1,hw2,hw3⟩:=hw'
 refine syText_H G_syText G_syText_ok _ ?_
 simp(disch:=first|omega|(simp only[zz];try omega;done)) only[↓reduceIte,go_sem,syText_S,syText_E]
 have sp:Step S0 u h _ _:=Step.push0 S0 u h #[.int .i64 kk,.int .i64 ki,str ks] 60
 have B:Blk (ub u h.size 0) (h.push (.cells #[.int .i64 kk,.int .i64 ki,str ks] 60)) h.size [.int .i64 kk,.int .i64 ki,str ks]:=(Blk.mk (by simp only[e_psz];omega) (by simp(disch:=first|omega|(simp only[zz];try omega;done)) only[go_sem]) (by simp(disch:=first|omega|(simp only[zz];try omega;done)) only[go_sem]) (by repeat (first|(refine ub_at ?_;simp only[];done)|apply ub_zero)) (by simp(disch:=first|omega|(simp only[zz];try omega;done)) only[go_sem]))
 refine effS_call (.inl ⟨rfl,ub u h.size 0,(kk,ki,ks),[.int .i64 kk,.int .i64 ki,str ks],rfl,by rw[rep_const],hw,fun u1 h1 s1=>⟨zz0,?_⟩⟩)
 have B1:=B.step0 s1
 have st1:=sp.trans0 s1
 simp only[vB]
 cases hv:validB (kk,ki,ks)with
 |false=>
  simp(disch:=first|omega|(simp only[zz];try omega;done)) only[↓reduceIte,go_sem]
  exact hK _ _ [] st1 (Nat.zero_le _)
 |true=>
  unfold validB at hv
  simp only at hv
  by_cases h1:kk=1
  ·simp(disch:=first|omega|(simp only[zz];try omega;done)) only[↓reduceIte,go_sem,B1.at,B1.2.1,eq_true h1]
   refine effS_call (.inr (.inl ⟨rfl,u1,ki,rfl,hw2,hP.mono st1.ge,fun u2 h2 s st2 hs=>⟨zz0,?_⟩⟩))
   simp(disch:=first|omega|(simp only[zz];try omega;done)) only[↓reduceIte,go_sem]
   exact hK _ _ s (st1.trans0 st2) (by omega)
  ·rw[if_neg h1]at hv
   by_cases h2:kk=2
   ·rw[if_pos h2,Bool.and_eq_true]at hv
    have:=name_len hv.2
    simp(disch:=first|omega|(simp only[zz];try omega;done)) only[↓reduceIte,go_sem,B1.at,B1.2.1,eq_false h1,eq_true h2]
    exact hK _ _ ks st1 (by omega)
   ·rw[if_neg h2]at hv
    by_cases h3:kk=3
    ·rw[if_pos h3,Bool.and_eq_true,decide_eq_true_eq,decide_eq_true_eq]at hv
     simp(disch:=first|omega|(simp only[zz];try omega;done)) only[↓reduceIte,go_sem,B1.at,B1.2.1,eq_false h1,eq_false h2]
     refine effS_call (.inr (.inr ⟨rfl,u1,ks,rfl,hv.2,fun u2 h2 s st2 hs=>⟨zz0,?_⟩⟩))
     simp(disch:=first|omega|(simp only[zz];try omega;done)) only[↓reduceIte,go_sem]
     exact hK _ _ s (st1.trans0 st2) hs
    ·rw[if_neg h3]at hv;cases hv
def WrK(N:Nat)(h:H)(b:Nat)(K:Value→H→Prop):Prop:= ∃(k:Nat) (u:U) (l:List UInt8),Bu k u h b l∧l.length≤1048576∧PowT u h∧
 ∀u' h' (m:List UInt8),Step (BldB h b) u h u' h'→Bu k u' h' b (l++m)→m.length≤N→(∀i,BldB h' b i→BldB h b i∨h.size≤i)→K (.tuple #[]) h'
def C_valueW(vs:List Value)(h:H)(K:Value→H→Prop):Prop:= ∃(b:Nat) (c:Const),vs=[.agg #[.int .i64 c.1,.int .i64 c.2.1,str c.2.2],.pointer (some ⟨b,0,none⟩)]∧Rep.wf c∧WrK 2048 h b K
def G_prValueW:Ctr:=fun f vs h K _=>(f=135∧C_text vs h K)∨(f=126∧C_wstr vs h K)
theorem G_prValueW_ok:GOk Tryz.prog G_prValueW:=by
 rintro f vs h K KP (⟨rfl,hC⟩|⟨rfl,hC⟩)
 ·exact syText_ok hC
 ·exact sbWriteString_ok hC
theorem bld_pre{k:Nat}{u u1 u2:U}{h h1 h2:H}{b:Nat}{l:List UInt8}(B:Bu k u h b l)(s1:Step S0 u h u1 h1)(s2:Step (BldB h1 b) u1 h1 u2 h2)(hb: ∀i,BldB h2 b i→BldB h1 b i∨h1.size≤i):
  Step (BldB h b) u h u2 h2∧ ∀i,BldB h2 b i→BldB h b i∨h.size≤i:=by
 obtain⟨-,e⟩:=B.step0 s1
 have eB: ∀j,BldB h1 b j→BldB h b j:=fun j hB=>hB.imp id fun hB=>by rw[e]at hB;exact hB
 exact⟨(s1.mono (S':=BldB h b) (fun _ _ h=>h.elim)).trans s2 (fun j _ hB=>eB j hB),fun i hB=>(hb i hB).imp (eB i) (Nat.le_trans s1.ge.sz)⟩
theorem prValueW_ok(hC:C_valueW vs h K):HCX Tryz.prog 134 vs h K KP:=by
 obtain⟨b,⟨kk,ki,ks⟩,rfl,hw,k,u,l,B,hl,hP,hK⟩:=hC
 refine prValueW_H G_prValueW G_prValueW_ok _ _ ?_
 simp(disch:=first|omega|(simp only[zz];try omega;done)) only[↓reduceIte,go_sem,prValueW_S,prValueW_E]
 have sp:Step S0 u h _ _:=Step.push0 S0 u h #[.int .i64 kk,.int .i64 ki,str ks] 205
 refine effS_call (.inl ⟨rfl,_,(kk,ki,ks),rfl,hw,hP.mono sp.ge,fun u1 h1 s s1 hs=>⟨zz0,?_⟩⟩)
 have st1:=sp.trans0 s1
 obtain⟨B1,-⟩:=B.step0 st1
 simp(disch:=first|omega|(simp only[zz];try omega;done)) only[↓reduceIte,go_sem]
 refine effS_call (.inr ⟨rfl,_,s,rfl,k,u1,b,l,rfl,B1,by omega,fun u2 h2 s2 B2 hb2=>⟨zz0,?_⟩⟩)
 obtain⟨c1,c2⟩:=bld_pre B st1 s2 hb2
 simp(disch:=first|omega|(simp only[zz];try omega;done)) only[go_sem]
 exact hK u2 h2 s c1 B2 hs c2
def C_termW(vs:List Value)(h:H)(K:Value→H→Prop):Prop:= ∃(b:Nat) (t:Term),vs=[.agg (Term.enc t).toArray,.pointer (some ⟨b,0,none⟩)]∧Rep.wf t∧termW t=0∧WrK 2048 h b K
def G_prTermW:Ctr:=fun f vs h K _=>(f=102∧C_constant vs h K)∨(f=134∧C_valueW vs h K)∨(f=126∧C_wstr vs h K)
theorem G_prTermW_ok:GOk Tryz.prog G_prTermW:=by
 rintro f vs h K KP (⟨rfl,hC⟩|⟨rfl,hC⟩|⟨rfl,hC⟩)
 ·exact prConstant_ok hC
 ·exact prValueW_ok hC
 ·exact sbWriteString_ok hC
theorem prTermW_ok(hC:C_termW vs h K):HCX Tryz.prog 133 vs h K KP:=by
 obtain⟨b,⟨tk,ti,ts,to⟩,rfl,⟨w1,w2,w3,w4⟩,ht,k,u,l,B,hl,hP,hK⟩:=hC
 refine prTermW_H G_prTermW G_prTermW_ok _ _ ?_
 have sp:Step S0 u h _ _:=Step.push0 S0 u h #[.int .i64 tk,.int .i64 ti,str ts,.int .i64 to] 195
 obtain⟨B1,-⟩:=B.step0 sp
 by_cases h4:tk=4
 ·have hlen:ts.length≤64:=by
   unfold termW at ht
   simp only[if_pos h4]at ht
   by_cases q:ti=0∧varB ts=true
   ·exact var_len q.2
   ·rw[if_neg q]at ht;cases ht
  simp(disch:=first|omega|(simp only[zz];try omega;done)) only[↓reduceIte,go_sem,prTermW_S,prTermW_E,Term.enc,eq_true h4]
  refine effS_call (.inr (.inr ⟨rfl,_,ts,rfl,k,_,b,l,rfl,B1,by omega,fun u2 h2 s2 B2 hb2=>⟨zz0,?_⟩⟩))
  obtain⟨c1,c2⟩:=bld_pre B sp s2 hb2
  simp(disch:=first|omega|(simp only[zz];try omega;done)) only[go_sem]
  exact hK u2 h2 ts c1 B2 (by omega) c2
 ·simp(disch:=first|omega|(simp only[zz];try omega;done)) only[↓reduceIte,go_sem,prTermW_S,prTermW_E,Term.enc,eq_false h4]
  refine effS_call (.inl ⟨rfl,ub u h.size 0,(tk,ti,ts,to),rfl,fun u1 h1 s1=>⟨zz0,?_⟩⟩)
  have st1:=sp.trans0 s1
  obtain⟨B2,-⟩:=B.step0 st1
  simp(disch:=first|omega|(simp only[zz];try omega;done)) only[↓reduceIte,go_sem]
  refine effS_call (.inr (.inl ⟨rfl,b,(tk,ti,ts),rfl,⟨w1,w2,w3⟩,k,u1,l,B2,hl,hP.mono st1.ge,fun u2 h2 m s2 B3 hm hb2=>⟨zz0,?_⟩⟩))
  obtain⟨c1,c2⟩:=bld_pre B st1 s2 hb2
  simp(disch:=first|omega|(simp only[zz];try omega;done)) only[go_sem]
  exact hK u2 h2 m c1 B3 hm c2
end Go.Proofs.YtmjinnbdnpedcaaGreat
end Merged
