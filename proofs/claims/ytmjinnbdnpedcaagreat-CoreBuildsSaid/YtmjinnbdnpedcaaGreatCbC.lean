/- The reference's Build: the terms of a program and of facts. -/
import Derived.Test.YtmjinnbdnpedcaaGreatCbB
namespace Edict
theorem enum_snoc(l:List (Term×Int))(t:Term)(k:Int):enumF 0 (l++[(t,k)])=enumF 0 l++[(t,k,(l.length:Int))]:=by
 rw[enum_app];simp [enumF]
theorem rawP_snoc{p:List Clause}{i:Nat}{c:Clause}(h:p[i]? =some c):rawP (p.take (i+1))=rawP (p.take i)++(termsC c).map fun t=>(t,(0:Int)):=by
 unfold rawP;rw[flat_snoc h,List.map_append]
theorem rawA_snoc{p:List Atom}{i:Nat}{c:Atom}(h:p[i]? =some c):rawA (p.take (i+1))=rawA (p.take i)++c.2.1.map fun t=>(t,(1:Int)):=by
 unfold rawA;rw[flat_snoc h,List.map_append]
theorem rawP_len{p:List Clause}(h: ∀c∈p,(termsC c).length≤136):(rawP p).length≤p.length*136:=by
 unfold rawP;rw[List.length_map];exact flat_few h
theorem rawA_len{p:List Atom}(h: ∀c∈p,c.2.1.length≤8):(rawA p).length≤p.length*8:=by
 unfold rawA;rw[List.length_map];exact flat_few h
end Edict
namespace Go.Proofs.YtmjinnbdnpedcaaGreat
open Go Go.Ev Edict
variable {vs:List Value} {h:H} {K:Value→H→Prop} {KP:List PanicEntry→H→Prop}
def Kind3(x:Literal):Prop:=x.1=1∨x.1=2∨x.1=3
def C_bodyTm(vs:List Value)(h:H)(K:Value→H→Prop):Prop:= ∃(u:U) (v:Value) (ls:List Literal),vs=[v]∧IsSl u h v ls∧(ls.flatMap termsL).length≤1000000∧(∀x∈ls,Kind3 x)∧ ∀u' h' w,Step S0 u h u' h'→IsSl u' h' w (ls.flatMap termsL)→K w h'
theorem rfBodyTerms_ok(hC:C_bodyTm vs h K):HCX Tryz.prog 38 vs h K KP:=by
 obtain⟨u,v,ls,rfl,hl,hbk,hkd,hK⟩:=hC
 obtain⟨la,lc,rfl,q1,q2⟩:=hl.sl
 have hm:=mlen'
 refine rfBodyTerms_H (fun _ _ _ _ _=>False) (fun _ _ _ _ _ h=>h.elim) _ ?_
 simp(disch:=first|omega|(simp only[zz];try omega;done)) only[go_sem,rfBodyTerms_S,rfBodyTerms_E]
 obtain⟨I,hI⟩: ∃I:Nat→Env→H→Prop,I=fun i σ h'=>σ 0= .slice la ls.length lc∧σ 4= .int .i64 i∧i≤ls.length∧ ∃u',Step S0 u h u' h'∧Own h.size u' h' (σ 3) ((ls.take i).flatMap termsL):=⟨_,rfl⟩
 refine wpS_loop I (fun i=>ls.length - i) 0 (by rw[hI];exact⟨by simp [upd],by simp [upd],Nat.zero_le _,u,.refl _ _ _,by simp only[upd];exact .nil _ _ _⟩) ?_
 intro i σ h' hy
 rw[hI]at hy
 obtain⟨e0,e4,hi,u',st,ho⟩:=hy
 by_cases hlt:i<ls.length
 ·obtain⟨x,hs⟩: ∃x,ls[i]? =some x:=⟨ls[i],by simp [hlt]⟩
  obtain⟨pb,po,rfl,hpb,hpu,hpz,hpr⟩:=(hl.mono st.ge).row i x hs
  rw[rep_literal]at hpr
  obtain⟨pv,hpr,hpv⟩:=hpr
  obtain⟨pva,pvc,rfl,r1,r2⟩:=hpv.sl
  simp only[Term.enc,sz_literal,hvs_14,List.cons_append,List.nil_append,List.cons.injEq,and_true]at hpr hpu hpz
  obtain⟨p0,p1,p2,p3,p4,p5,p6,p7,p8,p9,p10,p11,p12,p13⟩:=hpr
  have hfl:=flat_le (f:=termsL) hs
  have hsn:=flat_snoc (f:=termsL) hs
  have hk0:h.size≤h'.size:=st.ge.sz
  have hkx:=hkd x (List.mem_of_getElem? hs)
  by_cases hk:x.1=3
  ·have htl:termsL x=[x.2.2.2.1,x.2.2.2.2.1]:=by unfold termsL;rw[if_neg (by omega),if_pos hk]
   rw[htl]at hfl hsn
   simp only[List.length_cons,List.length_nil]at hfl
   simp(disch:=first|omega|(simp only[zz];try omega;done)) only[↓reduceIte,go_sem,rfBodyTerms_L1,e0,e4,hlt,p0,p5,p6,p7,p8,p9,p10,p11,p12,eq_true hk]
   have hsl:=(Own.made (k:=0) (α:=Term) u' h' (Nat.zero_le _) 56 [x.2.2.2.1,x.2.2.2.2.1] (Term.enc x.2.2.2.1++Term.enc x.2.2.2.2.1) rfl (by simp only[List.length_cons,List.length_nil];decide) (fun i y hx=>by
     match i with
     |0=>cases hx;rw[rep_term];rfl
     |1=>cases hx;rw[rep_term];rfl
     |i+2=>simp at hx)).isSl
   have sp2:=Step.push S0 u' h' (Term.enc x.2.2.2.1++Term.enc x.2.2.2.2.1).toArray 56 (2*4)
   simp only[Term.enc,List.cons_append,List.nil_append,List.length_cons,List.length_nil,Nat.zero_add,Nat.reduceAdd,Nat.reduceMul,sz_term]at hsl sp2
   refine effS_app (ho.step0 sp2) hsl rfl rfl (by simp only[e_psz];omega) (by simp only[List.length_cons,List.length_nil];omega) fun a n c u3 h3 ho3 s3=>⟨zz0,?_⟩
   simp(disch:=first|omega|(simp only[zz];try omega;done)) only[↓reduceIte,go_sem,e4]
   refine⟨i+1,?_,by omega⟩
   rw[hI]
   exact⟨by simp [upd,e0],by simp [upd],hlt,u3,(st.trans0 sp2).own s3 fun j hj=>ho.ge hj,by rw[hsn];simpa [upd]using ho3⟩
  ·have htl:termsL x=x.2.1.2.1:=by unfold termsL;rw[if_pos (by rcases hkx with h|h|h<;>omega)];rfl
   rw[htl]at hfl hsn
   simp(disch:=first|omega|(simp only[zz];try omega;done)) only[↓reduceIte,go_sem,rfBodyTerms_L1,e0,e4,hlt,p0,p2,eq_false hk]
   refine effS_app ho hpv rfl rfl hk0 (by omega) fun a n c u3 h3 ho3 s3=>⟨zz0,?_⟩
   simp(disch:=first|omega|(simp only[zz];try omega;done)) only[↓reduceIte,go_sem,e4]
   refine⟨i+1,?_,by omega⟩
   rw[hI]
   exact⟨by simp [upd,e0],by simp [upd],hlt,u3,st.own s3 fun j hj=>ho.ge hj,by rw[hsn];simpa [upd]using ho3⟩
 ·obtain rfl:i=ls.length:=by omega
  rw[List.take_length]at ho
  simp(disch:=first|omega|(simp only[zz];try omega;done)) only[↓reduceIte,go_sem,rfBodyTerms_L1,e0,e4]
  exact hK _ _ _ st ho.isSl
def C_termsR(vs:List Value)(h:H)(K:Value→H→Prop):Prop:= ∃(u:U) (v w:Value) (p:List Clause) (fs:List Atom),vs=[.agg #[v],w]∧IsSl u h v p∧IsSl u h w fs∧p.length≤512∧(∀c∈p,(termsC c).length≤136∧ ∀x∈c.2,Kind3 x)∧fs.length≤4096∧(∀a∈fs,a.2.1.length≤8)∧ ∀u' h' w,Step S0 u h u' h'→IsSl u' h' w (putsF p fs)→K w h'
def G_rfTerms:Ctr:=fun f vs h K _=>f=38∧C_bodyTm vs h K
theorem G_rfTerms_ok:GOk Tryz.prog G_rfTerms:=by
 rintro f vs h K KP ⟨rfl,hC⟩;exact rfBodyTerms_ok hC
theorem rfTerms_ok(hC:C_termsR vs h K):HCX Tryz.prog 11 vs h K KP:=by
 obtain⟨u,v,w,p,fs,rfl,hl,hf,hp5,hpT,hf4,hf8,hK⟩:=hC
 obtain⟨la,lc,rfl,q1,q2⟩:=hl.sl
 obtain⟨fa,fc,rfl,q3,q4⟩:=hf.sl
 have hm:=mlen'
 refine rfTerms_H G_rfTerms G_rfTerms_ok _ _ ?_
 simp(disch:=first|omega|(simp only[zz];try omega;done)) only[↓reduceIte,go_sem,rfTerms_S,rfTerms_E]
 have s1:=Step.push0 S0 u h #[.slice la p.length lc] 24
 have B1:=Blk.new (u:=u) (h:=h) [.slice la p.length lc] 24
 obtain⟨I,hI⟩: ∃I:Nat→Env→H→Prop,I=fun i σ h'=>σ 1= .slice fa fs.length fc∧σ 2= .pointer (some ⟨h.size,0,none⟩)∧σ 6= .int .i64 i∧i≤p.length∧ ∃u',Step S0 u h u' h'∧Blk u' h' h.size [.slice la p.length lc]∧h.size+1≤h'.size∧Own (h.size+1) u' h' (σ 5) (enumF 0 (rawP (p.take i))):=⟨_,rfl⟩
 refine wpS_loop I (fun i=>p.length - i) 0 (by rw[hI];exact⟨by simp [upd],by simp [upd],by simp [upd],Nat.zero_le _,_,s1,B1,by simp only[e_psz];omega,by simp only[upd];exact .nil _ _ _⟩) ?_
 intro i σ h' hy
 rw[hI]at hy
 obtain⟨e1,e2,e6,hi,u',st,B,hz,ho⟩:=hy
 have bl:=B.1
 by_cases hlt:i<p.length
 ·obtain⟨x,hs⟩: ∃x,p[i]? =some x:=⟨p[i],by simp [hlt]⟩
  obtain⟨pb,po,rfl,hpb,hpu,hpz,hpr⟩:=(hl.mono st.ge).row i x hs
  rw[rep_clause]at hpr
  obtain⟨va,vb,hpr,hh,hb⟩:=hpr
  obtain⟨ha,hc,rfl,-,-⟩:=hh.sl
  obtain⟨ba,bc,rfl,-,-⟩:=hb.sl
  simp only[sz_clause,hvs_4,List.cons.injEq,and_true]at hpr hpu hpz
  obtain⟨p0,p1,p2,p3⟩:=hpr
  obtain⟨hx1,hx2⟩:=hpT x (List.mem_of_getElem? hs)
  have hx1':x.1.2.1.length+(x.2.flatMap termsL).length≤136:=by
   have:=hx1;unfold termsC at this;rw[List.length_append]at this;exact this
  have hlen:=rawP_len (p:=p.take i) fun c hc=>(hpT c (List.mem_of_mem_take hc)).1
  rw[List.length_take]at hlen
  simp(disch:=first|omega|(simp only[zz];try omega;done)) only[↓reduceIte,go_sem,rfTerms_L1,e2,e6,B.at,B.2.1,hlt,p1]
  have o1:=own_empty (α:=Term) h'.size u' h' (Nat.le_refl _) 56
  have spA:=Step.push0 S0 u' h' #[] 56
  have BA:=B.step0 spA
  have hoA:=ho.step0 spA
  refine effS_app (k:=h'.size) o1 (hh.mono spA.ge) rfl rfl (by simp only[e_psz];omega) (by simp only[List.length_nil];omega) fun a n k u3 h3 ho3 s3=>⟨zz0,?_⟩
  have hne: ∀j,OwnB (.slice (some ⟨h'.size,0,none⟩) 0 0) j→h'.size=j:=fun j hj=>by
   obtain⟨y1,y2,y3,e⟩:=hj
   simp only[Value.slice.injEq,Option.some.injEq,Addr.mk.injEq]at e
   exact e.1.1
  have st3:=(st.trans0 spA).own s3 fun j hj=>by have:=hne j hj;omega
  have B3:=BA.step s3 fun hj=>by have:=hne _ hj;omega
  have hoB: ∀j,OwnB (σ 5) j→j<h'.size:=fun j hj=>ho.lt hj
  have ho5:=hoA.step s3 (fun j hj hj2=>by have:=hoB j hj;have:=hne j hj2;omega)
  have hz3:=s3.ge.sz
  simp only[e_psz]at hz3
  simp only[List.nil_append]at ho3
  have b3l:=B3.1
  obtain⟨pb',po',hpe,hpb3,hpu3,hpz3,hpr3⟩:=(hl.mono st3.ge).row i x hs
  simp only[Option.some.injEq,Addr.mk.injEq,and_true]at hpe
  obtain⟨rfl,rfl⟩:=hpe
  rw[rep_clause]at hpr3
  obtain⟨va3,vb3,hpr3,hh3,hb3⟩:=hpr3
  obtain⟨ha3,hc3,rfl,-,-⟩:=hh3.sl
  obtain⟨ba3,bc3,rfl,-,-⟩:=hb3.sl
  simp only[sz_clause,hvs_4,List.cons.injEq,and_true]at hpr3 hpu3 hpz3
  obtain⟨g0,g1,g2,g3⟩:=hpr3
  simp(disch:=first|omega|(simp only[zz];try omega;done)) only[↓reduceIte,go_sem,e2,e6,B3.at,B3.2.1,hlt,g3]
  refine effS_call ⟨rfl,u3,_,x.2,rfl,hb3,by omega,hx2,fun u4 h4 w4 s4 hw4=>⟨zz0,?_⟩⟩
  have st4:=st3.trans0 s4
  have B4:=B3.step0 s4
  have ho4:=ho3.step0 s4
  have hoT4:=ho5.step0 s4
  have hz4:=s4.ge.sz
  simp(disch:=first|omega|(simp only[zz];try omega;done)) only[↓reduceIte,go_sem]
  refine effS_app ho4 hw4 rfl rfl (by omega) (by omega) fun a5 n5 c5 u5 h5 ho5' s5=>⟨zz0,?_⟩
  have st5:=st4.own s5 fun j hj=>by have:=ho4.ge hj;omega
  have B5:=B4.step s5 fun hj=>by have:=ho4.ge hj;omega
  have hoT5:=hoT4.step s5 (fun j hj hj2=>by have:=hoB j hj;have:=ho4.ge hj2;omega)
  have hz5:=s5.ge.sz
  obtain⟨ta,tc,htv,-,-⟩:=ho5'.sl
  have iT:=ho5'.isSl
  rw[htv]at iT ⊢
  have hTe:x.1.2.1++x.2.flatMap termsL=termsC x:=rfl
  rw[hTe]at iT ⊢
  obtain⟨T,hT⟩: ∃T,T=termsC x:=⟨_,rfl⟩
  rw[←hT]at iT hx1 ⊢
  simp(disch:=first|omega|(simp only[zz];try omega;done)) only[↓reduceIte,go_sem]
  obtain⟨J,hJ⟩: ∃J:Nat→Env→H→Prop,J=fun j σ h'=>σ 1= .slice fa fs.length fc∧σ 2= .pointer (some ⟨h.size,0,none⟩)∧σ 6= .int .i64 i∧σ 7= .slice ta T.length tc∧σ 9= .int .i64 j∧j≤T.length∧ ∃u',Step S0 u h u' h'∧Blk u' h' h.size [.slice (some ⟨pb,po,none⟩) p.length lc]∧h.size+1≤h'.size∧Own (h.size+1) u' h' (σ 5) (enumF 0 (rawP (p.take i)++(T.take j).map fun t=>(t,(0:Int))))∧IsSl u' h' (.slice ta T.length tc) T:=⟨_,rfl⟩
  refine wpS_loop J (fun j=>T.length - j) 0 (by rw[hJ];exact⟨by simp [upd,e1],by simp [upd,e2],by simp [upd,e6],by simp [upd],by simp [upd],Nat.zero_le _,u5,st5,B5,by omega,by simpa [upd]using hoT5,iT⟩) ?_
  have hpi: ∀y∈p.take i,(termsC y).length≤136:=fun c hc=>(hpT c (List.mem_of_mem_take hc)).1
  clear st5 B5 hoT5 iT hz5 ho5' s5 st4 B4 ho4 hoT4 hz4 s4 hw4 ho5 ho3 s3 B3 st3 b3l g0 g1 g2 g3 hh3 hb3 hpb3 hpu3 hpz3 htv hne
  intro j τ h7 hy
  rw[hJ]at hy
  obtain⟨f1,f2,f6,f7,f9,hj,u7,st7,B7,hz7,ho7,iT⟩:=hy
  by_cases hjl:j<T.length
  ·obtain⟨t,ht⟩: ∃t,T[j]? =some t:=⟨T[j],by simp [hjl]⟩
   obtain⟨qb,qo,hqe,hqb,hqu,hqz,hqr⟩:=iT.row j t ht
   subst hqe
   simp only[rep_term,Term.enc,sz_term,hvs_4,List.cons.injEq,and_true]at hqr hqu hqz
   obtain⟨t0,t1,t2,t3⟩:=hqr
   obtain⟨L,hL⟩: ∃L,L=rawP (p.take i)++(T.take j).map fun t=>(t,(0:Int)):=⟨_,rfl⟩
   rw[←hL]at ho7
   have hLl:L.length≤70000:=by rw[hL,List.length_append,List.length_map,List.length_take];omega
   have hEl:=enum_len L 0
   obtain⟨sa,sc,hσ5,-,-⟩:=ho7.sl
   rw[hσ5]at ho7
   have hx:Rep.rep u7 h7 ((t,0,((enumF 0 L).length:Int)):Put) [.int .i64 t.1,.int .i64 t.2.1,str t.2.2.1,.int .i64 t.2.2.2,.int .i64 0,.int .i64 (enumF 0 L).length]:=by rw[rep_put];rfl
   simp(disch:=first|omega|(simp only[zz];try omega;done)) only[↓reduceIte,go_sem,rfTerms_L2,f7,f9,hjl,t0,t1,t2,t3,hσ5]
   refine effS_app1 (e':=58) (cs:=[.int .i64 t.1,.int .i64 t.2.1,str t.2.2.1,.int .i64 t.2.2.2,.int .i64 0,.int .i64 (enumF 0 L).length]) ho7 hx rfl rfl hz7 (by omega) fun a n c u8 h8 ho8 s8=>⟨zz0,?_⟩
   have st8:=st7.own s8 fun j hj=>by have:=ho7.ge hj;omega
   have B8:=B7.step s8 fun hj=>by have:=ho7.ge hj;omega
   have hz8:=s8.ge.sz
   simp(disch:=first|omega|(simp only[zz];try omega;done)) only[↓reduceIte,go_sem,f9]
   refine⟨j+1,?_,by omega⟩
   rw[hJ]
   have hsn:enumF 0 (rawP (p.take i)++(T.take (j+1)).map fun t=>(t,(0:Int)))=enumF 0 L++[(t,0,((enumF 0 L).length:Int))]:=by
    rw[take_map_snoc ht,←List.append_assoc,←hL,enum_snoc,hEl]
   exact⟨by simp [upd,f1],by simp [upd,f2],by simp [upd,f6],by simp [upd,f7],by simp [upd],hjl,u8,st8,B8,by omega,by rw[hsn];simpa [upd]using ho8,iT.mono s8.ge⟩
  ·obtain rfl:j=T.length:=by omega
   rw[List.take_length]at ho7
   simp(disch:=first|omega|(simp only[zz];try omega;done)) only[↓reduceIte,go_sem,rfTerms_L2,f6,f7,f9]
   refine⟨i+1,?_,by omega⟩
   rw[hI]
   exact⟨by simp [upd,f1],by simp [upd,f2],by simp [upd],hlt,u7,st7,B7,hz7,by rw[rawP_snoc hs,←hT];simpa [upd]using ho7⟩
 ·obtain rfl:i=p.length:=by omega
  rw[List.take_length]at ho
  have hlen:=rawP_len fun c hc=>(hpT c hc).1
  simp(disch:=first|omega|(simp only[zz];try omega;done)) only[↓reduceIte,go_sem,rfTerms_L1,e2,e6,B.at,B.2.1]
  clear hI I
  obtain⟨I,hI⟩: ∃I:Nat→Env→H→Prop,I=fun i σ h'=>σ 1= .slice fa fs.length fc∧σ 10= .int .i64 i∧i≤fs.length∧ ∃u',Step S0 u h u' h'∧h.size+1≤h'.size∧Own (h.size+1) u' h' (σ 5) (enumF 0 (rawP p++rawA (fs.take i))):=⟨_,rfl⟩
  refine wpS_loop I (fun i=>fs.length - i) 0 (by rw[hI];exact⟨by simp [upd,e1],by simp [upd],Nat.zero_le _,u',st,hz,by simpa [upd,rawA]using ho⟩) ?_
  clear e1 e2 e6 ho st B bl hz hi hlt
  intro i σ h' hy
  rw[hI]at hy
  obtain⟨e1,e10,hi,u',st,hz,ho⟩:=hy
  by_cases hlt:i<fs.length
  ·obtain⟨x,hs⟩: ∃x,fs[i]? =some x:=⟨fs[i],by simp [hlt]⟩
   have hx8:=hf8 x (List.mem_of_getElem? hs)
   have hla:=rawA_len (p:=fs.take i) fun c hc=>hf8 c (List.mem_of_mem_take hc)
   rw[List.length_take]at hla
   simp(disch:=first|omega|(simp only[zz];try omega;done)) only[↓reduceIte,go_sem,rfTerms_L3,e1,e10,hlt]
   obtain⟨J,hJ⟩: ∃J:Nat→Env→H→Prop,J=fun j σ h'=>σ 1= .slice fa fs.length fc∧σ 10= .int .i64 i∧σ 11= .int .i64 j∧j≤x.2.1.length∧ ∃u',Step S0 u h u' h'∧h.size+1≤h'.size∧Own (h.size+1) u' h' (σ 5) (enumF 0 ((rawP p++rawA (fs.take i))++(x.2.1.take j).map fun t=>(t,(1:Int)))):=⟨_,rfl⟩
   refine wpS_loop J (fun j=>x.2.1.length - j) 0 (by rw[hJ];exact⟨by simp [upd,e1],by simp [upd,e10],by simp [upd],Nat.zero_le _,u',st,hz,by simpa [upd]using ho⟩) ?_
   clear st ho hz
   intro j τ h7 hy
   rw[hJ]at hy
   obtain⟨f1,f10,f11,hj,u7,st7,hz7,ho7⟩:=hy
   obtain⟨pb,po,hpe,hpb,hpu,hpz,hpr⟩:=(hf.mono st7.ge).row i x hs
   subst hpe
   rw[rep_atom]at hpr
   obtain⟨va,hpr,hh⟩:=hpr
   obtain⟨ha,hc,rfl,-,-⟩:=hh.sl
   simp only[sz_atom,hvs_3,List.cons.injEq,and_true]at hpr hpu hpz
   obtain⟨p0,p1,p2⟩:=hpr
   by_cases hjl:j<x.2.1.length
   ·obtain⟨t,ht⟩: ∃t,x.2.1[j]? =some t:=⟨x.2.1[j],by simp [hjl]⟩
    obtain⟨qb,qo,hqe,hqb,hqu,hqz,hqr⟩:=hh.row j t ht
    subst hqe
    simp only[rep_term,Term.enc,sz_term,hvs_4,List.cons.injEq,and_true]at hqr hqu hqz
    obtain⟨t0,t1,t2,t3⟩:=hqr
    obtain⟨L,hL⟩: ∃L,L=(rawP p++rawA (fs.take i))++(x.2.1.take j).map fun t=>(t,(1:Int)):=⟨_,rfl⟩
    rw[←hL]at ho7
    have hLl:L.length≤200000:=by rw[hL,List.length_append,List.length_append,List.length_map,List.length_take];omega
    have hEl:=enum_len L 0
    obtain⟨sa,sc,hσ5,-,-⟩:=ho7.sl
    rw[hσ5]at ho7
    have hx:Rep.rep u7 h7 ((t,1,((enumF 0 L).length:Int)):Put) [.int .i64 t.1,.int .i64 t.2.1,str t.2.2.1,.int .i64 t.2.2.2,.int .i64 1,.int .i64 (enumF 0 L).length]:=by rw[rep_put];rfl
    simp(disch:=first|omega|(simp only[zz];try omega;done)) only[↓reduceIte,go_sem,rfTerms_L4,f1,f10,f11,hlt,hjl,p1,t0,t1,t2,t3,hσ5]
    refine effS_app1 (e':=58) (cs:=[.int .i64 t.1,.int .i64 t.2.1,str t.2.2.1,.int .i64 t.2.2.2,.int .i64 1,.int .i64 (enumF 0 L).length]) ho7 hx rfl rfl hz7 (by omega) fun a n c u8 h8 ho8 s8=>⟨zz0,?_⟩
    have st8:=st7.own s8 fun j hj=>by have:=ho7.ge hj;omega
    have hz8:=s8.ge.sz
    simp(disch:=first|omega|(simp only[zz];try omega;done)) only[↓reduceIte,go_sem,f11]
    refine⟨j+1,?_,by omega⟩
    rw[hJ]
    have hsn:enumF 0 ((rawP p++rawA (fs.take i))++(x.2.1.take (j+1)).map fun t=>(t,(1:Int)))=enumF 0 L++[(t,1,((enumF 0 L).length:Int))]:=by
     rw[take_map_snoc ht,←List.append_assoc,←hL,enum_snoc,hEl]
    exact⟨by simp [upd,f1],by simp [upd,f10],by simp [upd],hjl,u8,st8,by omega,by rw[hsn];simpa [upd]using ho8⟩
   ·obtain rfl:j=x.2.1.length:=by omega
    rw[List.take_length]at ho7
    simp(disch:=first|omega|(simp only[zz];try omega;done)) only[↓reduceIte,go_sem,rfTerms_L4,f1,f10,f11,hlt,p1]
    refine⟨i+1,?_,by omega⟩
    rw[hI]
    exact⟨by simp [upd,f1],by simp [upd],hlt,u7,st7,hz7,by rw[rawA_snoc hs,←List.append_assoc];simpa [upd]using ho7⟩
  ·obtain rfl:i=fs.length:=by omega
   rw[List.take_length]at ho
   simp(disch:=first|omega|(simp only[zz];try omega;done)) only[↓reduceIte,go_sem,rfTerms_L3,e1,e10]
   exact hK _ _ _ st ho.isSl
end Go.Proofs.YtmjinnbdnpedcaaGreat
