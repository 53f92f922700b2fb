/- The reference's Build: the book of constants. -/
import Derived.Test.YtmjinnbdnpedcaaGreatCbH
import Derived.Test.YtmjinnbdnpedcaaGreatKcF
namespace Edict
def conT(c:Const):Term:=(c.1,c.2.1,c.2.2,0)
def bookL(cs:List Const):List Put:=enumF 0 (cs.map fun c=>(conT c,(0:Int)))
theorem bookL_snoc{cs:List Const}{i:Nat}{c:Const}(h:cs[i]? =some c):bookL (cs.take (i+1))=bookL (cs.take i)++[(conT c,0,(i:Int))]:=by
 have hi:=(List.getElem?_eq_some_iff.1 h).1
 unfold bookL
 rw[take_map_snoc h,enum_snoc,List.length_map,List.length_take,Nat.min_eq_left (by omega)]
theorem bookL_len(cs:List Const):(bookL cs).length=cs.length:=by unfold bookL;rw[enum_len,List.length_map]
theorem enum_at: ∀(l:List (Term×Int)) (n:Nat) {x:Put},x∈enumF n l→ ∃i:Nat,l[i]? =some (x.1,x.2.1)∧x.2.2=((n+i:Nat):Int)
 |[],_,x,h=>by simp [enumF]at h
 |(t,k)::l,n,x,h=>by
  rw[enumF]at h
  rcases List.mem_cons.1 h with rfl|h
  ·exact⟨0,rfl,by simp⟩
  ·obtain⟨i,h1,h2⟩:=enum_at l (n+1) h
   exact⟨i+1,by simpa using h1,by rw[h2];congr 1;omega⟩
theorem nodup_take{α:Type}{l:List α}{i:Nat}{x:α}(hn:l.Nodup)(h:l[i]? =some x):x ∉ l.take i:=by
 intro hm
 obtain⟨j,hj,e⟩:=List.mem_iff_getElem.1 hm
 rw[List.length_take]at hj
 rw[List.getElem_take]at e
 obtain⟨hi,e2⟩:=List.getElem?_eq_some_iff.1 h
 have:=(List.nodup_iff_pairwise_ne.1 hn)
 rw[List.pairwise_iff_getElem]at this
 exact this j i (by omega) hi (by omega) (by rw[e,e2])
theorem bookL_at{cs:List Const}(hn:cs.Nodup){x:Put}(h:x∈bookL cs):cnst x.1∈cs∧x.2.2=idL cs (cnst x.1):=by
 obtain⟨i,h1,h2⟩:=enum_at _ 0 h
 rw[List.getElem?_map]at h1
 cases hc:cs[i]? with
 |none=>rw[hc]at h1;cases h1
 |some c=>
  rw[hc]at h1
  simp only[Option.map_some,Option.some.injEq,Prod.mk.injEq]at h1
  have hx:cnst x.1=c:=by rw[←h1.1];rfl
  have hm:=List.mem_of_getElem? hc
  rw[hx]
  refine⟨hm,?_⟩
  rw[h2,←posI_in hm,pos_first (nodup_take hn hc) hc,Nat.zero_add]
theorem bookL_all{cs:List Const}{c:Const}(h:c∈cs): ∃x∈bookL cs,cnst x.1=c:=by
 have:c∈(bookL cs).map fun x=>cnst x.1:=by
  have e:(bookL cs).map (fun x=>cnst x.1)=cs:=by
   have:=congrArg (List.map cnst) (enum_fst (cs.map fun c=>(conT c,(0:Int))) 0)
   rw[List.map_map,List.map_map,List.map_map]at this
   unfold bookL
   refine this.trans ?_
   exact List.map_id' _
  rw[e];exact h
 obtain⟨x,hx,e⟩:=List.mem_map.1 this
 exact⟨x,hx,e⟩
theorem bookL_up(cs:List Const):(bookL cs).Pairwise fun x y=>x.2.2<y.2.2:=enum_up _ _
theorem book_up{cs:List Const}(hn:cs.Nodup){r:List Put}(hr:SortR false (bookL cs) r):r.Pairwise fun x y=>cmpC (cnst x.1) (cnst y.1)<0:=by
 refine List.Pairwise.imp_of_mem (fun{x y} hx hy h=> ?_) hr.2
 rcases ltP_false.1 h with h|⟨h1,h2⟩
 ·exact h
 ·exfalso
  have e1:=(bookL_at hn (hr.1.mem_iff.1 hx)).2
  have e2:=(bookL_at hn (hr.1.mem_iff.1 hy)).2
  rw[cmpC_eq.1 h1]at e1
  omega
end Edict
namespace Go.Proofs.YtmjinnbdnpedcaaGreat
open Go Go.Ev Edict
variable {vs:List Value} {h:H} {K:Value→H→Prop} {KP:List PanicEntry→H→Prop}
structure BookB (u:U) (h:H) (b:Nat) (cs:List Const):Prop where
 ex: ∃va vi L I,Blk u h b [va,vi]∧IsSl u h va L∧IsSl u h vi I∧L.length=I.length∧L.length≤1000000∧(L.Pairwise fun x y:Const=>cmpC x y<0)∧(∀(i:Nat) (c:Const) (n:Int),L[i]? =some c→I[i]? =some n→n=idL cs c)∧(∀c∈cs,c∈L)∧ ∀c∈L,c.2.2.length≤9223372036854775807
theorem BookB.step0{u u':U}{h h':H}{b:Nat}{cs:List Const}(k:BookB u h b cs)(s:Step S0 u h u' h'):BookB u' h' b cs:=by
 obtain⟨va,vi,L,I,h1,h2,h3,h4⟩:=k.ex
 exact⟨va,vi,L,I,h1.step0 s,h2.mono s.ge,h3.mono s.ge,h4⟩
theorem BookB.step{S:Nat→Prop}{u u':U}{h h':H}{b:Nat}{cs:List Const}(k:BookB u h b cs)(s:Step S u h u' h')(hn: ¬S b):BookB u' h' b cs:=by
 obtain⟨va,vi,L,I,h1,h2,h3,h4⟩:=k.ex
 exact⟨va,vi,L,I,h1.step s hn,h2.mono s.ge,h3.mono s.ge,h4⟩
def C_id(vs:List Value)(h:H)(K:Value→H→Prop):Prop:= ∃(u:U) (b:Nat) (cs:List Const) (c:Const),vs=[.pointer (some ⟨b,0,none⟩),.agg (Const.enc c).toArray]∧BookB u h b cs∧c∈cs∧ ∀u' h',Step S0 u h u' h'→K (.int .i64 (idL cs c)) h'
def G_rfId:Ctr:=fun f vs h K _=>f=64∧C_cmpC vs h K
theorem G_rfId_ok:GOk Tryz.prog G_rfId:=by
 rintro f vs h K KP ⟨rfl,hC⟩;exact r1Compare_ok hC
theorem rfId_ok(hC:C_id vs h K):HCX Tryz.prog 41 vs h K KP:=by
 obtain⟨u,b,cs,c,rfl,hB,hc,hK⟩:=hC
 obtain⟨va,vi,L,I,hb,hL,hI',hlen,hmax,hup,hid,hall,htx⟩:=hB.ex
 obtain⟨la,lc,rfl,q1,q2⟩:=hL.sl
 obtain⟨ia,ic,rfl,q3,q4⟩:=hI'.sl
 have hm:=mlen'
 obtain⟨p,hp⟩: ∃p:Nat,L[p]? =some c:=by
  obtain⟨i,hi,e⟩:=List.mem_iff_getElem.1 (hall c hc)
  exact⟨i,by rw[List.getElem?_eq_getElem hi,e]⟩
 have hpl:=(List.getElem?_eq_some_iff.1 hp).1
 have hbl:=hb.1
 refine rfId_H G_rfId G_rfId_ok _ _ ?_
 simp(disch:=first|omega|(simp only[zz];try omega;done)) only[↓reduceIte,go_sem,rfId_S,rfId_E,Const.enc,hb.at,hb.2.1]
 have s1:=Step.push0 S0 u h #[.int .i64 c.1,.int .i64 c.2.1,str c.2.2] 60
 have B1:=Blk.new (u:=u) (h:=h) [.int .i64 c.1,.int .i64 c.2.1,str c.2.2] 60
 have b1:=hb.step0 s1
 obtain⟨J,hJ⟩: ∃J:Nat×Nat→Env→H→Prop,J=fun x σ h'=>σ 0= .pointer (some ⟨b,0,none⟩)∧σ 3= .pointer (some ⟨h.size,0,none⟩)∧σ 5= .int .i64 x.1∧σ 6= .int .i64 x.2∧x.1≤p∧p<x.2∧x.2≤L.length∧ ∃u',Step S0 u h u' h'∧Blk u' h' h.size [.int .i64 c.1,.int .i64 c.2.1,str c.2.2]:=⟨_,rfl⟩
 refine wpS_loop J (fun x=>x.2 - x.1) (0,L.length) (by rw[hJ];exact⟨by simp [upd],by simp [upd],by simp [upd],by simp [upd],Nat.zero_le _,hpl,Nat.le_refl _,_,s1,B1⟩) ?_
 rintro ⟨lo,hi⟩ σ h' hy
 rw[hJ]at hy
 simp only at hy
 obtain⟨e0,e3,e5,e6,hlo,hhi,hhl,u',st,X⟩:=hy
 have B:=hb.step0 st
 have bl:=B.1
 have xl:=X.1
 obtain⟨m,hmd⟩: ∃m:Nat,((lo:Int)+hi) / 2=m:=⟨(lo+hi) / 2,by omega⟩
 have hm1:lo≤m∧m<hi:=by omega
 have hml:m<L.length:=by omega
 obtain⟨x,hx⟩: ∃x,L[m]? =some x:=⟨L[m],by rw[List.getElem?_eq_getElem hml]⟩
 obtain⟨pb,po,hpe,hpb,hpu,hpz,hpr⟩:=(hL.mono st.ge).row m x hx
 subst hpe
 simp only[rep_const,sz_const,hvs_3,List.cons.injEq,and_true]at hpr hpu hpz
 obtain⟨p0,p1,p2⟩:=hpr
 have hlt:(lo:Int)<hi:=by omega
 simp(disch:=first|omega|(simp only[zz];try omega;done)) only[↓reduceIte,go_sem,rfId_L1,e0,e3,e5,e6,eq_true hlt,tdivN,hmd,B.at,B.2.1,X.at,X.2.1,hml,p0,p1,p2]
 refine effS_call ⟨rfl,u',x,c,rfl,htx x (List.mem_of_getElem? hx),fun u2 h2 s2=>⟨zz0,?_⟩⟩
 have st2:=st.trans0 s2
 have B2:=hb.step0 st2
 have X2:=X.step0 s2
 have b2l:=B2.1
 by_cases h0:cmpC x c=0
 ·have hxc:=cmpC_eq.1 h0
  subst hxc
  have hmi:m<I.length:=by omega
  obtain⟨n,hn⟩: ∃n,I[m]? =some n:=⟨I[m],by rw[List.getElem?_eq_getElem hmi]⟩
  obtain⟨qb,qo,hqe,hqb,hqu,hqz,hqr⟩:=(hI'.mono st2.ge).row m n hn
  subst hqe
  simp only[rep_int,sz_int,hvs_1,List.cons.injEq,and_true]at hqr hqu hqz
  have:=hid m x n hx hn
  simp(disch:=first|omega|(simp only[zz];try omega;done)) only[↓reduceIte,go_sem,eq_true h0,e0,B2.at,B2.2.1,hmi,hqr]
  rw[this]
  exact hK _ _ st2
 ·have hne:m≠p:=fun e=>h0 (by
   subst e
   rw[hx]at hp
   exact cmpC_eq.2 (Option.some.inj hp))
  rw[List.pairwise_iff_getElem]at hup
  obtain⟨hpl',ep⟩:=List.getElem?_eq_some_iff.1 hp
  obtain⟨hml',em⟩:=List.getElem?_eq_some_iff.1 hx
  by_cases hneg:cmpC x c<0
  ·have hmp:m<p:=by
    rcases Nat.lt_or_ge m p with h|h
    ·exact h
    ·have:=hup p m hpl' hml' (by omega)
     rw[ep,em,cmpC_anti x c]at this;omega
   simp(disch:=first|omega|(simp only[zz];try omega;done)) only[↓reduceIte,go_sem,eq_false h0,eq_true hneg]
   refine⟨(m+1,hi),?_,by simp only;omega⟩
   rw[hJ]
   exact⟨by simp [upd,e0],by simp [upd,e3],by simp [upd],by simp [upd,e6],hmp,hhi,hhl,u2,st2,X2⟩
  ·have hmp:p<m:=by
    rcases Nat.lt_or_ge p m with h|h
    ·exact h
    ·have:=hup m p hml' hpl' (by omega)
     rw[ep,em]at this;omega
   simp(disch:=first|omega|(simp only[zz];try omega;done)) only[↓reduceIte,go_sem,eq_false h0,eq_false hneg]
   refine⟨(lo,m),?_,by simp only;omega⟩
   rw[hJ]
   exact⟨by simp [upd,e0],by simp [upd,e3],by simp [upd,e5],by simp [upd],hlo,hmp,by omega,u2,st2,X2⟩
def C_book(vs:List Value)(h:H)(K:Value→H→Prop):Prop:= ∃(u:U) (v:Value) (cs:List Const),vs=[v]∧IsSl u h v cs∧cs.length≤65536∧cs.Nodup∧(∀c∈cs,c.2.2.length≤9223372036854775807)∧ ∀u' h' b,Step S0 u h u' h'→h.size≤b→BookB u' h' b cs→K (.pointer (some ⟨b,0,none⟩)) h'
def G_rfBook:Ctr:=fun f vs h K _=>(f=39∧ ∃n,C_sorted n vs h K)∨(f=13∧C_cnst vs h K)
theorem G_rfBook_ok:GOk Tryz.prog G_rfBook:=by
 rintro f vs h K KP (⟨rfl,n,hC⟩|⟨rfl,hC⟩)
 ·exact rfSorted_ok n hC
 ·exact rfConst_ok hC
theorem rfBook_ok(hC:C_book vs h K):HCX Tryz.prog 14 vs h K KP:=by
 obtain⟨u,v,cs,rfl,hl,hcl,hnd,htx,hK⟩:=hC
 obtain⟨la,lc,rfl,q1,q2⟩:=hl.sl
 have hm:=mlen'
 refine rfBook_H G_rfBook G_rfBook_ok _ ?_
 simp(disch:=first|omega|(simp only[zz];try omega;done)) only[go_sem,rfBook_S,rfBook_E]
 obtain⟨I,hI⟩: ∃I:Nat→Env→H→Prop,I=fun i σ h'=>σ 0= .slice la cs.length lc∧σ 4= .int .i64 i∧i≤cs.length∧ ∃u',Step S0 u h u' h'∧Own h.size u' h' (σ 3) (bookL (cs.take i)):=⟨_,rfl⟩
 refine wpS_loop I (fun i=>cs.length - i) 0 (by rw[hI];exact⟨by simp [upd],by simp [upd],Nat.zero_le _,u,.refl _ _ _,by simp only[upd];exact .nil _ _ _⟩) ?_
 intro i σ h' hy
 rw[hI]at hy
 obtain⟨e0,e4,hi,u',st,ho⟩:=hy
 by_cases hlt:i<cs.length
 ·obtain⟨x,hs⟩: ∃x,cs[i]? =some x:=⟨cs[i],by simp [hlt]⟩
  obtain⟨pb,po,rfl,hpb,hpu,hpz,hpr⟩:=(hl.mono st.ge).row i x hs
  simp only[rep_const,sz_const,hvs_3,List.cons.injEq,and_true]at hpr hpu hpz
  obtain⟨p0,p1,p2⟩:=hpr
  have hbl:(bookL (cs.take i)).length≤i:=by rw[bookL_len,List.length_take];exact Nat.min_le_left _ _
  have hrx:Rep.rep u' h' ((conT x,0,(i:Int)):Put) [.int .i64 x.1,.int .i64 x.2.1,str x.2.2,.int .i64 0,.int .i64 0,.int .i64 i]:=by rw[rep_put];rfl
  simp(disch:=first|omega|(simp only[zz];try omega;done)) only[↓reduceIte,go_sem,rfBook_L1,e0,e4,hlt,p0,p1,p2]
  refine effS_app1 (e':=58) (cs:=[.int .i64 x.1,.int .i64 x.2.1,str x.2.2,.int .i64 0,.int .i64 0,.int .i64 i]) ho hrx rfl rfl st.ge.sz (by omega) fun a n c u3 h3 ho3 s3=>⟨zz0,?_⟩
  simp(disch:=first|omega|(simp only[zz];try omega;done)) only[↓reduceIte,go_sem,e4]
  refine⟨i+1,?_,by omega⟩
  rw[hI]
  exact⟨by simp [upd,e0],by simp [upd],hlt,u3,st.own s3 fun j hj=>ho.ge hj,by rw[bookL_snoc hs];simpa [upd]using ho3⟩
 ·obtain rfl:i=cs.length:=by omega
  rw[List.take_length]at ho
  have hdl:DistP (bookL cs):=(bookL_up cs).imp fun h e=>by omega
  have hbl:=bookL_len cs
  have hsl:=ho.isSl
  obtain⟨sa,sc,hσ3,-,-⟩:=ho.sl
  rw[hσ3]at hsl
  have htxB:TxtP (bookL cs):=fun x hx=>htx (cnst x.1) (bookL_at hnd hx).1
  simp(disch:=first|omega|(simp only[zz];try omega;done)) only[↓reduceIte,go_sem,rfBook_L1,e0,e4,hσ3]
  refine effS_call (.inl ⟨rfl,_,u',_,false,bookL cs,rfl,hsl,Nat.le_refl _,by omega,hdl,htxB,fun u2 h2 w2 s s2 hs2 hw2=>⟨zz0,?_⟩⟩)
  have st2:=st.trans0 s2
  have hsn:=hs2.1.length_eq
  obtain⟨wa,wc,rfl,-,-⟩:=hw2.sl
  have sp:=Step.push0 S0 u2 h2 #[.slice none 0 0,.slice none 0 0] 115
  have Bb:=Blk.new (u:=u2) (h:=h2) [.slice none 0 0,.slice none 0 0] 115
  have stp:=st2.trans0 sp
  have hz2:=st2.ge.sz
  simp(disch:=first|omega|(simp only[zz];try omega;done)) only[↓reduceIte,go_sem]
  clear hI I
  obtain⟨J,hJ⟩: ∃J:Nat→Env→H→Prop,J=fun i σ h'=>σ 3= .slice wa s.length wc∧σ 5= .pointer (some ⟨h2.size,0,none⟩)∧σ 6= .int .i64 i∧i≤s.length∧ ∃u' va vi,Step S0 u h u' h'∧IsSl u' h' (.slice wa s.length wc) s∧Blk u' h' h2.size [va,vi]∧h2.size+1≤h'.size∧Own (h2.size+1) u' h' va ((s.take i).map fun x=>cnst x.1)∧Own (h2.size+1) u' h' vi ((s.take i).map fun x=>x.2.2)∧ ∀j,OwnB va j→ ¬OwnB vi j:=⟨_,rfl⟩
  refine wpS_loop J (fun i=>s.length - i) 0 (by rw[hJ];exact⟨by simp [upd],by simp [upd],by simp [upd],Nat.zero_le _,_,_,_,stp,hw2.mono sp.ge,Bb,by simp only[e_psz];omega,.nil _ _ _,.nil _ _ _,fun j hj=>by obtain⟨_,_,_,e⟩:=hj;cases e⟩) ?_
  clear e0 e4 ho st hsl hσ3
  intro j τ h7 hy
  rw[hJ]at hy
  obtain⟨f3,f5,f6,hj,u7,va,vi,st7,iS,B7,hz7,oa,oi,hdis⟩:=hy
  obtain⟨aa,ac,rfl,-,-⟩:=oa.sl
  obtain⟨ia,ic,rfl,-,-⟩:=oi.sl
  have b7l:=B7.1
  by_cases hjl:j<s.length
  ·obtain⟨x,hx⟩: ∃x,s[j]? =some x:=⟨s[j],by simp [hjl]⟩
   obtain⟨pb,po,hpe,hpb,hpu,hpz,hpr⟩:=iS.row j x hx
   subst hpe
   simp only[rep_put,Put.enc,sz_put,hvs_6,List.cons.injEq,and_true]at hpr hpu hpz
   obtain⟨p0,p1,p2,p3,p4,p5⟩:=hpr
   have hla:((s.take j).map fun x=>cnst x.1).length≤j:=by rw[List.length_map,List.length_take];exact Nat.min_le_left _ _
   have hli:((s.take j).map fun x=>x.2.2).length≤j:=by rw[List.length_map,List.length_take];exact Nat.min_le_left _ _
   simp(disch:=first|omega|(simp only[zz];try omega;done)) only[↓reduceIte,go_sem,rfBook_L2,f3,f5,f6,hjl,p0,p1,p2,p3,B7.at,B7.2.1]
   refine effS_call (.inr ⟨rfl,u7,x.1,rfl,fun u8 h8 s8=> ?_⟩)
   have B8:=B7.step0 s8
   have oa8:=oa.step0 s8
   have oi8:=oi.step0 s8
   have iS8:=iS.mono s8.ge
   have hz8:=s8.ge.sz
   have st8:=st7.trans0 s8
   have b8l:=B8.1
   refine⟨by simp(disch:=first|omega|(simp only[zz];try omega;done)) only[↓reduceIte,go_sem,f5,B8.at,B8.2.1,B7.at],?_⟩
   have hrc:Rep.rep u8 h8 (cnst x.1) [.int .i64 x.1.1,.int .i64 x.1.2.1,str x.1.2.2.1]:=by rw[rep_const];rfl
   have hce:(Const.enc (cnst x.1)).toArray= #[.int .i64 x.1.1,.int .i64 x.1.2.1,str x.1.2.2.1]:=rfl
   have htk: ∀{β:Type} (f:Put→β),(s.take (j+1)).map f=(s.take j).map f++[f x]:=fun f=>take_map_snoc hx
   have hJA:=htk fun x=>cnst x.1
   have hJI:=htk fun x=>x.2.2
   obtain⟨A,hA⟩: ∃A,A=(s.take j).map fun x=>cnst x.1:=⟨_,rfl⟩
   obtain⟨D,hD⟩: ∃D,D=(s.take j).map fun x=>x.2.2:=⟨_,rfl⟩
   rw[←hA]at hla oa oa8 B7 B8 hdis hJA ⊢
   rw[←hD]at hli oi oi8 B7 B8 hdis hJI
   simp(disch:=first|omega|(simp only[zz];try omega;done)) only[↓reduceIte,go_sem,f5,hce,B8.at,B8.2.1]
   refine effS_app1o (e':=60) (cs:=[.int .i64 x.1.1,.int .i64 x.1.2.1,str x.1.2.2.1]) rfl oa8 hrc rfl rfl (by omega) (by omega) fun a9 n9 c9 u9 h9 o9 s9 w9=>⟨zz0,?_⟩
   have B9:=B8.step s9 fun hj=>by have:=oa8.ge hj;omega
   have i9:=oi8.step s9 fun b hb hb2=>hdis b hb2 hb
   have iS9:=iS8.mono s9.ge
   have st9:=st8.own s9 fun j hj=>by have:=oa8.ge hj;omega
   have hz9:=s9.ge.sz
   have b9l:=B9.1
   obtain⟨xa9,xc9,hx9,-,-⟩:=o9.sl
   cases hx9
   have sw:=B9.stepSet (i:=0) (v:= .slice a9 (A++[cnst x.1]).length c9)
   have B10:=B9.set (i:=0) (v:= .slice a9 (A++[cnst x.1]).length c9) (by simp)
   have o10:=o9.step sw fun b hb e=>by have e:b=h2.size:=e;have:=o9.ge hb;omega
   have i10:=i9.step sw fun b hb e=>by have e:b=h2.size:=e;have:=i9.ge hb;omega
   have iS10:=iS9.mono sw.ge
   have st10:=st9.own sw fun j e=>by have e:j=h2.size:=e;omega
   have hz10:=sw.ge.sz
   simp(disch:=first|omega|(simp only[zz];try omega;done)) only[↓reduceIte,go_sem,f5,B9.2.1,B9.2.2.1]
   obtain⟨h10,hh10⟩: ∃h10,h10=hset h9 h2.size 0 (.slice a9 (A++[cnst x.1]).length c9):=⟨_,rfl⟩
   have hle:(A++[cnst x.1]).length=A.length+1:=by rw[List.length_append];rfl
   rw[←hh10]at sw B10 o10 i10 iS10 st10 hz10
   have B10:Blk u9 h10 h2.size [.slice a9 (A++[cnst x.1]).length c9,.slice ia D.length ic]:=B10
   have hzz:h9.size=h10.size:=by rw[hh10,e_ssz]
   rw[hle]at hh10
   have b10l:=B10.1
   obtain⟨pb',po',hpe,hpb,hpu,hpz,hpr⟩:=iS10.row j x hx
   simp only[Option.some.injEq,Addr.mk.injEq,and_true]at hpe
   obtain⟨rfl,rfl⟩:=hpe
   simp only[rep_put,Put.enc,sz_put,hvs_6,List.cons.injEq,and_true]at hpr hpu hpz
   obtain⟨g0,g1,g2,g3,g4,g5⟩:=hpr
   have hri:Rep.rep u9 h10 x.2.2 [.int .i64 x.2.2]:=by rw[rep_int]
   simp(disch:=first|omega|(simp only[zz];try omega;done)) only[go_sem,←hh10,f3,f6,hjl,g5,B10.at]
   refine effS_app1o (e':=3) (cs:=[.int .i64 x.2.2]) hzz i10 hri rfl rfl (by omega) (by omega) fun a11 n11 c11 u11 h11 o11 s11 w11=>⟨zz0,?_⟩
   have B11:=B10.step s11 fun hj=>by have:=i10.ge hj;omega
   have d10: ∀b,OwnB (.slice a9 (A++[cnst x.1]).length c9) b→ ¬OwnB (.slice ia D.length ic) b:=fun b hb hb2=>by
    rcases w9 b hb with h|h
    ·exact hdis b h hb2
    ·have:=oi8.lt hb2;omega
   have c11':=o10.step s11 d10
   have iS11:=iS10.mono s11.ge
   have st11:=st10.own s11 fun j hj=>by have:=i10.ge hj;omega
   have hz11:=s11.ge.sz
   have b11l:=B11.1
   obtain⟨xa11,xc11,hx11,-,-⟩:=o11.sl
   cases hx11
   have sw:=B11.stepSet (i:=1) (v:= .slice a11 (D++[x.2.2]).length c11)
   have B12:Blk u11 (hset h11 h2.size 1 (.slice a11 (D++[x.2.2]).length c11)) h2.size [.slice a9 (A++[cnst x.1]).length c9,.slice a11 (D++[x.2.2]).length c11]:=B11.set (i:=1) (v:= .slice a11 (D++[x.2.2]).length c11) (by simp)
   have o12:=c11'.step sw fun b hb e=>by have e:b=h2.size:=e;have:=c11'.ge hb;omega
   have i12:=o11.step sw fun b hb e=>by have e:b=h2.size:=e;have:=o11.ge hb;omega
   have iS12:=iS11.mono sw.ge
   have st12:=st11.own sw fun j e=>by have e:j=h2.size:=e;omega
   have hz12:=sw.ge.sz
   have hld:(D++[x.2.2]).length=D.length+1:=by rw[List.length_append];rfl
   simp(disch:=first|omega|(simp only[zz];try omega;done)) only[↓reduceIte,go_sem,f5,f6,B11.2.1,B11.2.2.1]
   refine⟨j+1,?_,by omega⟩
   rw[hJ]
   rw[←hld]
   refine⟨by simp [upd,f3],by simp [upd,f5],by simp [upd],hjl,u11,.slice a9 (A++[cnst x.1]).length c9,.slice a11 (D++[x.2.2]).length c11,st12,iS12,B12,by omega,by rw[hJA];exact o12,by rw[hJI];exact i12,?_⟩
   intro b hb hb2
   rcases w11 b hb2 with h|h
   ·exact d10 b hb h
   ·have:=o10.lt hb;omega
  ·obtain rfl:j=s.length:=by omega
   rw[List.take_length]at oa oi B7 hdis
   simp(disch:=first|omega|(simp only[zz];try omega;done)) only[↓reduceIte,go_sem,rfBook_L2,f3,f5,f6]
   refine hK _ _ h2.size st7 hz2 ⟨_,_,_,_,B7,oa.isSl,oi.isSl,by rw[List.length_map,List.length_map],by rw[List.length_map];omega,?_,?_,?_,?_⟩
   ·rw[List.pairwise_map];exact book_up hnd hs2
   ·intro i c n hc hn
    rw[List.getElem?_map]at hc hn
    cases hx:s[i]? with
    |none=>rw[hx]at hc;cases hc
    |some x=>
     rw[hx]at hc hn
     cases hc
     cases hn
     exact(bookL_at hnd (hs2.1.mem_iff.1 (List.mem_of_getElem? hx))).2
   ·intro c hc
    obtain⟨x,hx,e⟩:=bookL_all hc
    exact List.mem_map.2 ⟨x,hs2.1.mem_iff.2 hx,e⟩
   ·intro c hc
    obtain⟨x,hx,rfl⟩:=List.mem_map.1 hc
    exact htx _ (bookL_at hnd (hs2.1.mem_iff.1 hx)).1
end Go.Proofs.YtmjinnbdnpedcaaGreat
