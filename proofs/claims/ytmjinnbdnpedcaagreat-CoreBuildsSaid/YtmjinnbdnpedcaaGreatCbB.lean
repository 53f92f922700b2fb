/- The reference's Build: the atoms of a program and of facts. -/
import Derived.Test.YtmjinnbdnpedcaaGreatKcL
namespace Edict
theorem filt_snoc{α:Type}{p:α→Bool}{l:List α}{i:Nat}{x:α}(h:l[i]? =some x):(l.take (i+1)).filter p=(l.take i).filter p++if p x then [x]else []:=by
 rw[List.take_add_one,h,Option.toList_some,List.filter_append]
 congr 1
 cases hp:p x<;>simp [hp]
def stoodL(ls:List Literal):List Stood:=(ls.filter isA).map fun x=>(x.2.1,(0:Int))
theorem stoodL_eq(ls:List Literal):stoodL ls=(atomsL ls).map fun a=>(a,(0:Int)):=by unfold stoodL atomsL;rw[List.map_map];rfl
theorem stoodL_len(ls:List Literal):(stoodL ls).length≤ls.length:=by unfold stoodL;rw[List.length_map];exact List.length_filter_le _ _
theorem take_map_snoc{α β:Type}{f:α→β}{l:List α}{i:Nat}{x:α}(h:l[i]? =some x):(l.take (i+1)).map f=(l.take i).map f++[f x]:=by
 rw[List.take_add_one,h,Option.toList_some,List.map_append];rfl
end Edict
namespace Go.Ev
open Go Edict
theorem rep_stood{u:U}{h:H}{k:Stood}{cs:List Value}:Rep.rep u h k cs= ∃v,cs=[str k.1.1,v,.int .i64 k.1.2.2,.int .i64 k.2]∧IsSl u h v k.1.2.1:=by
 rw[rep_prod];simp only[rep_atom,rep_int];apply propext;constructor
 ·rintro ⟨_,_,rfl,⟨v,rfl,hs⟩,rfl⟩;exact⟨v,rfl,hs⟩
 ·rintro ⟨v,rfl,hs⟩;exact⟨_,_,rfl,⟨v,rfl,hs⟩,rfl⟩
theorem sz_stood:Rep.sz Stood=4:=rfl
end Go.Ev
namespace Go.Proofs.YtmjinnbdnpedcaaGreat
open Go Go.Ev Edict
variable {vs:List Value} {h:H} {K:Value→H→Prop} {KP:List PanicEntry→H→Prop}
def C_bodyAt(vs:List Value)(h:H)(K:Value→H→Prop):Prop:= ∃(u:U) (v:Value) (ls:List Literal),vs=[v]∧IsSl u h v ls∧ls.length≤1000000∧ ∀u' h' w,Step S0 u h u' h'→IsSl u' h' w (stoodL ls)→K w h'
theorem rfBodyAtoms_ok(hC:C_bodyAt vs h K):HCX Tryz.prog 34 vs h K KP:=by
 obtain⟨u,v,ls,rfl,hl,hbk,hK⟩:=hC
 obtain⟨la,lc,rfl,q1,q2⟩:=hl.sl
 have hm:=mlen'
 refine rfBodyAtoms_H (fun _ _ _ _ _=>False) (fun _ _ _ _ _ h=>h.elim) _ ?_
 simp(disch:=first|omega|(simp only[zz];try omega;done)) only[go_sem,rfBodyAtoms_S,rfBodyAtoms_E]
 obtain⟨I,hI⟩: ∃I:Nat→Env→H→Prop,I=fun i σ h'=>σ 0= .slice la ls.length lc∧σ 4= .int .i64 i∧i≤ls.length∧ ∃u',Step S0 u h u' h'∧Own h.size u' h' (σ 3) (stoodL (ls.take i)):=⟨_,rfl⟩
 refine wpS_loop I (fun i=>ls.length - i) 0 (by rw[hI];exact⟨by simp [upd],by simp [upd],Nat.zero_le _,u,.refl _ _ _,by simp only[upd];exact .nil _ _ _⟩) ?_
 intro i σ h' hy
 rw[hI]at hy
 obtain⟨e0,e4,hi,u',st,ho⟩:=hy
 by_cases hlt:i<ls.length
 ·obtain⟨x,hs⟩: ∃x,ls[i]? =some x:=⟨ls[i],by simp [hlt]⟩
  obtain⟨pb,po,rfl,hpb,hpu,hpz,hpr⟩:=(hl.mono st.ge).row i x hs
  rw[rep_literal]at hpr
  obtain⟨pv,hpr,hpv⟩:=hpr
  obtain⟨pva,pvc,rfl,r1,r2⟩:=hpv.sl
  simp only[Term.enc,sz_literal,hvs_14,List.cons_append,List.nil_append,List.cons.injEq,and_true]at hpr hpu hpz
  obtain⟨p0,p1,p2,p3,-⟩:=hpr
  have hsn:stoodL (ls.take (i+1))=stoodL (ls.take i)++if isA x then [(x.2.1,0)]else []:=by
   unfold stoodL;rw[filt_snoc hs,List.map_append];congr 1;cases isA x<;>rfl
  have hk0:h.size≤h'.size:=st.ge.sz
  have hlen:=stoodL_len (ls.take i)
  rw[List.length_take]at hlen
  by_cases hk:x.1=1∨x.1=2
  ·have hA:isA x=true:=by unfold isA;exact decide_eq_true hk
   rw[hA,if_pos rfl]at hsn
   have hx:Rep.rep u' h' ((x.2.1,0):Stood) [str x.2.1.1,.slice pva x.2.1.2.1.length pvc,.int .i64 x.2.1.2.2,.int .i64 0]:=by rw[rep_stood];exact⟨_,rfl,hpv⟩
   have fin: ∀(r:List St) (Q:Env→H→Prop) (KP':List PanicEntry→H→Prop) (σ':Env),(∀a n c u3 h3,Own h.size u3 h3 (.slice a n c) (stoodL (ls.take i)++[(x.2.1,0)])→Step S0 u h u3 h3→wpSts (fun _ _ _ _ _=>False) r Q KP' (updo σ' (some 33) (.slice a n c)) h3)→
     effS (fun _ _ _ _ _=>False) (.app 105 4 56 [str [],.slice none 0 0,.int .i64 0,.int .i64 0]) (some 33) [] r Q KP' [σ 3,.slice (some ⟨h'.size,0,none⟩) 1 1] σ' (h'.push (.cells #[str x.2.1.1,.slice pva x.2.1.2.1.length pvc,.int .i64 x.2.1.2.2,.int .i64 0] 105)):=fun r Q KP' σ' hq=>
    effS_app1 (e':=105) (cs:=[str x.2.1.1,.slice pva x.2.1.2.1.length pvc,.int .i64 x.2.1.2.2,.int .i64 0]) ho hx rfl rfl hk0 (by omega) fun a n c u3 h3 ho3 s3=>⟨by simp only[e_stab0],hq a n c u3 h3 ho3 (st.own s3 fun j hj=>ho.ge hj)⟩
   have next: ∀(σ':Env) (u3:U) (h3:H),σ' 0=σ 0→σ' 4= .int .i64 ((i:Int)+1)→Step S0 u h u3 h3→Own h.size u3 h3 (σ' 3) (stoodL (ls.take i)++[(x.2.1,0)])→ ∃y,I y σ' h3∧ls.length - y<ls.length - i:=fun σ' u3 h3 g0 g4 sx ho'=>by
    refine⟨i+1,?_,by omega⟩
    rw[hI]
    exact⟨by rw[g0,e0],g4,hlt,u3,sx,by rw[hsn];exact ho'⟩
   rcases hk with hk|hk
   ·simp(disch:=first|omega|(simp only[zz];try omega;done)) only[↓reduceIte,go_sem,rfBodyAtoms_L1,e0,e4,hlt,p0,p1,p2,p3,eq_true hk]
    refine fin _ _ _ _ fun a n c u3 h3 ho3 st3=> ?_
    simp(disch:=first|omega|(simp only[zz];try omega;done)) only[↓reduceIte,go_sem,e4]
    exact next _ u3 h3 (by simp [upd]) (by simp [upd]) st3 (by simpa [upd]using ho3)
   ·simp(disch:=first|omega|(simp only[zz];try omega;done)) only[↓reduceIte,go_sem,rfBodyAtoms_L1,e0,e4,hlt,p0,p1,p2,p3,eq_true hk,eq_false (show¬x.1=1 by omega)]
    refine fin _ _ _ _ fun a n c u3 h3 ho3 st3=> ?_
    simp(disch:=first|omega|(simp only[zz];try omega;done)) only[↓reduceIte,go_sem,e4]
    exact next _ u3 h3 (by simp [upd]) (by simp [upd]) st3 (by simpa [upd]using ho3)
  ·have hA:isA x=false:=by unfold isA;exact decide_eq_false hk
   rw[hA,if_neg (by simp),List.append_nil]at hsn
   simp(disch:=first|omega|(simp only[zz];try omega;done)) only[↓reduceIte,go_sem,rfBodyAtoms_L1,e0,e4,hlt,p0,eq_false (show¬x.1=1 by omega),eq_false (show¬x.1=2 by omega)]
   refine⟨i+1,?_,by omega⟩
   rw[hI]
   exact⟨by simp [upd,e0],by simp [upd],hlt,u',st,by rw[hsn];simpa [upd]using ho⟩
 ·obtain rfl:i=ls.length:=by omega
  rw[List.take_length]at ho
  simp(disch:=first|omega|(simp only[zz];try omega;done)) only[↓reduceIte,go_sem,rfBodyAtoms_L1,e0,e4]
  exact hK _ _ _ st ho.isSl
def C_atomsR(vs:List Value)(h:H)(K:Value→H→Prop):Prop:= ∃(u:U) (v w:Value) (p:List Clause) (fs:List Atom),vs=[.agg #[v],w]∧IsSl u h v p∧IsSl u h w fs∧p.length≤512∧(∀c∈p,c.2.length≤16)∧fs.length≤4096∧ ∀u' h' w,Step S0 u h u' h'→IsSl u' h' w (stoodsF p fs)→K w h'
def stoodC(p:List Clause):List Stood:=(p.flatMap atomsC).map fun a=>(a,(0:Int))
theorem stoodC_snoc{p:List Clause}{i:Nat}{c:Clause}(h:p[i]? =some c):stoodC (p.take (i+1))=(stoodC (p.take i)++[(c.1,0)])++stoodL c.2:=by
 unfold stoodC;rw[flat_snoc h,List.map_append,stoodL_eq,List.append_assoc];rfl
theorem stoodC_len: ∀(p:List Clause),(∀c∈p,c.2.length≤16)→(stoodC p).length≤17*p.length
 |[],_=>by simp [stoodC]
 |c::l,h=>by
  have ih:=stoodC_len l fun x hx=>h x (List.mem_cons_of_mem _ hx)
  have h1:=h c (List.mem_cons_self ..)
  have h2:=stoodL_len c.2
  rw[stoodL_eq,List.length_map]at h2
  unfold stoodC at ih ⊢
  rw[List.flatMap_cons,List.map_append,List.length_append]
  simp only[atomsC,List.length_map,List.length_cons]at ih ⊢
  omega
def G_rfAtoms:Ctr:=fun f vs h K _=>f=34∧C_bodyAt vs h K
theorem G_rfAtoms_ok:GOk Tryz.prog G_rfAtoms:=by
 rintro f vs h K KP ⟨rfl,hC⟩;exact rfBodyAtoms_ok hC
theorem rfAtoms_ok(hC:C_atomsR vs h K):HCX Tryz.prog 8 vs h K KP:=by
 obtain⟨u,v,w,p,fs,rfl,hl,hf,hp5,hp16,hf4,hK⟩:=hC
 obtain⟨la,lc,rfl,q1,q2⟩:=hl.sl
 obtain⟨fa,fc,rfl,q3,q4⟩:=hf.sl
 have hm:=mlen'
 refine rfAtoms_H G_rfAtoms G_rfAtoms_ok _ _ ?_
 simp(disch:=first|omega|(simp only[zz];try omega;done)) only[↓reduceIte,go_sem,rfAtoms_S,rfAtoms_E]
 have s1:=Step.push0 S0 u h #[.slice la p.length lc] 24
 have B1:=Blk.new (u:=u) (h:=h) [.slice la p.length lc] 24
 have hz1:(h.push (.cells #[.slice la p.length lc] 24)).size=h.size+1:=by simp only[e_psz]
 obtain⟨I,hI⟩: ∃I:Nat→Env→H→Prop,I=fun i σ h'=>σ 1= .slice fa fs.length fc∧σ 2= .pointer (some ⟨h.size,0,none⟩)∧σ 6= .int .i64 i∧i≤p.length∧ ∃u',Step S0 u h u' h'∧Blk u' h' h.size [.slice la p.length lc]∧h.size+1≤h'.size∧Own (h.size+1) u' h' (σ 5) (stoodC (p.take i)):=⟨_,rfl⟩
 refine wpS_loop I (fun i=>p.length - i) 0 (by rw[hI];exact⟨by simp [upd],by simp [upd],by simp [upd],Nat.zero_le _,_,s1,B1,by simp only[e_psz];omega,by simp only[upd];exact .nil _ _ _⟩) ?_
 intro i σ h' hy
 rw[hI]at hy
 obtain⟨e1,e2,e6,hi,u',st,B,hz,ho⟩:=hy
 have bl:=B.1
 by_cases hlt:i<p.length
 ·obtain⟨x,hs⟩: ∃x,p[i]? =some x:=⟨p[i],by simp [hlt]⟩
  obtain⟨pb,po,rfl,hpb,hpu,hpz,hpr⟩:=(hl.mono st.ge).row i x hs
  rw[rep_clause]at hpr
  obtain⟨va,vb,hpr,hh,hb⟩:=hpr
  obtain⟨ha,hc,rfl,-,-⟩:=hh.sl
  obtain⟨ba,bc,rfl,-,-⟩:=hb.sl
  simp only[sz_clause,hvs_4,List.cons.injEq,and_true]at hpr hpu hpz
  obtain⟨p0,p1,p2,p3⟩:=hpr
  have hlen:=stoodC_len (p.take i) fun c hc=>hp16 c (List.mem_of_mem_take hc)
  rw[List.length_take]at hlen
  have hx16:=hp16 x (List.mem_of_getElem? hs)
  have hx:Rep.rep u' h' ((x.1,0):Stood) [str x.1.1,.slice ha x.1.2.1.length hc,.int .i64 x.1.2.2,.int .i64 0]:=by rw[rep_stood];exact⟨_,rfl,hh⟩
  simp(disch:=first|omega|(simp only[zz];try omega;done)) only[↓reduceIte,go_sem,rfAtoms_L1,e2,e6,B.at,B.2.1,hlt,p0,p1,p2]
  refine effS_app1 (e':=105) (cs:=[str x.1.1,.slice ha x.1.2.1.length hc,.int .i64 x.1.2.2,.int .i64 0]) ho hx rfl rfl hz (by omega) fun a n c u3 h3 ho3 s3=>⟨zz0,?_⟩
  have st3:=st.own s3 fun j hj=>by have:=ho.ge hj;omega
  have B3:=B.step s3 fun hj=>by have:=ho.ge hj;omega
  have hz3:=s3.ge.sz
  have b3l:=B3.1
  obtain⟨pb',po',hpe,hpb3,hpu3,hpz3,hpr3⟩:=(hl.mono st3.ge).row i x hs
  simp only[Option.some.injEq,Addr.mk.injEq,and_true]at hpe
  obtain⟨rfl,rfl⟩:=hpe
  rw[rep_clause]at hpr3
  obtain⟨va3,vb3,hpr3,hh3,hb3⟩:=hpr3
  obtain⟨ha3,hc3,rfl,-,-⟩:=hh3.sl
  obtain⟨ba3,bc3,rfl,-,-⟩:=hb3.sl
  simp only[sz_clause,hvs_4,List.cons.injEq,and_true]at hpr3 hpu3 hpz3
  obtain⟨g0,g1,g2,g3⟩:=hpr3
  simp(disch:=first|omega|(simp only[zz];try omega;done)) only[↓reduceIte,go_sem,e2,e6,B3.at,B3.2.1,hlt,g3]
  refine effS_call ⟨rfl,u3,_,x.2,rfl,hb3,by omega,fun u4 h4 w4 s4 hw4=>⟨zz0,?_⟩⟩
  have st4:=st3.trans0 s4
  have B4:=B3.step0 s4
  have ho4:=ho3.step0 s4
  have hz4:=s4.ge.sz
  have hsl:=stoodL_len x.2
  simp(disch:=first|omega|(simp only[zz];try omega;done)) only[↓reduceIte,go_sem]
  refine effS_app ho4 hw4 rfl rfl (by omega) (by rw[List.length_append,List.length_singleton];omega) fun a5 n5 c5 u5 h5 ho5 s5=>⟨zz0,?_⟩
  have st5:=st4.own s5 fun j hj=>by have:=ho4.ge hj;omega
  have B5:=B4.step s5 fun hj=>by have:=ho4.ge hj;omega
  have hz5:=s5.ge.sz
  simp(disch:=first|omega|(simp only[zz];try omega;done)) only[↓reduceIte,go_sem,e6]
  refine⟨i+1,?_,by omega⟩
  rw[hI]
  exact⟨by simp [upd,e1],by simp [upd,e2],by simp [upd],hlt,u5,st5,B5,by omega,by rw[stoodC_snoc hs];simpa [upd]using ho5⟩
 ·obtain rfl:i=p.length:=by omega
  rw[List.take_length]at ho
  have hlen:=stoodC_len p hp16
  simp(disch:=first|omega|(simp only[zz];try omega;done)) only[↓reduceIte,go_sem,rfAtoms_L1,e2,e6,B.at,B.2.1]
  clear hI I
  obtain⟨J,hJ⟩: ∃J:Nat→Env→H→Prop,J=fun i σ h'=>σ 1= .slice fa fs.length fc∧σ 8= .int .i64 i∧i≤fs.length∧ ∃u',Step S0 u h u' h'∧h.size+1≤h'.size∧Own (h.size+1) u' h' (σ 5) (stoodC p++(fs.take i).map fun a=>(a,(1:Int))):=⟨_,rfl⟩
  refine wpS_loop J (fun i=>fs.length - i) 0 (by rw[hJ];exact⟨by simp [upd,e1],by simp [upd],Nat.zero_le _,u',st,hz,by simpa [upd]using ho⟩) ?_
  clear e1 e2 e6 ho st B bl hz hi hlt
  intro i σ h' hy
  rw[hJ]at hy
  obtain⟨e1,e8,hi,u',st,hz,ho⟩:=hy
  by_cases hlt:i<fs.length
  ·obtain⟨x,hs⟩: ∃x,fs[i]? =some x:=⟨fs[i],by simp [hlt]⟩
   obtain⟨pb,po,rfl,hpb,hpu,hpz,hpr⟩:=(hf.mono st.ge).row i x hs
   rw[rep_atom]at hpr
   obtain⟨va,hpr,hh⟩:=hpr
   obtain⟨ha,hc,rfl,-,-⟩:=hh.sl
   simp only[sz_atom,hvs_3,List.cons.injEq,and_true]at hpr hpu hpz
   obtain⟨p0,p1,p2⟩:=hpr
   have hx:Rep.rep u' h' ((x,1):Stood) [str x.1,.slice ha x.2.1.length hc,.int .i64 x.2.2,.int .i64 1]:=by rw[rep_stood];exact⟨_,rfl,hh⟩
   simp(disch:=first|omega|(simp only[zz];try omega;done)) only[↓reduceIte,go_sem,rfAtoms_L2,e1,e8,hlt,p0,p1,p2]
   refine effS_app1 (e':=105) (cs:=[str x.1,.slice ha x.2.1.length hc,.int .i64 x.2.2,.int .i64 1]) ho hx rfl rfl hz (by rw[List.length_append,List.length_map,List.length_take];omega) fun a n c u3 h3 ho3 s3=>⟨zz0,?_⟩
   have st3:=st.own s3 fun j hj=>by have:=ho.ge hj;omega
   have hz3:=s3.ge.sz
   simp(disch:=first|omega|(simp only[zz];try omega;done)) only[↓reduceIte,go_sem,e8]
   refine⟨i+1,?_,by omega⟩
   rw[hJ]
   exact⟨by simp [upd,e1],by simp [upd],hlt,u3,st3,by omega,by rw[take_map_snoc hs,←List.append_assoc];simpa [upd]using ho3⟩
  ·obtain rfl:i=fs.length:=by omega
   rw[List.take_length]at ho
   simp(disch:=first|omega|(simp only[zz];try omega;done)) only[↓reduceIte,go_sem,rfAtoms_L2,e1,e8]
   exact hK _ _ _ st ho.isSl
end Go.Proofs.YtmjinnbdnpedcaaGreat
