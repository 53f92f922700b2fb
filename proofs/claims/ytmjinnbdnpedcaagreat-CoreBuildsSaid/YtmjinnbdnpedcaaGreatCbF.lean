/- The reference's Build: merging and sorting. -/
import Derived.Test.YtmjinnbdnpedcaaGreatCbE
namespace Go.Ev
open Go Rep
theorem e_cutLoV{h:H}(m:Nat)(a:Option Addr)(n c:Nat)(k:IntKind)(i:Int):v2 (.cutLo m) (.slice a n c) (.int k i) h= .slice (if c=i.toNat then a else a.map (·.add (i.toNat*m))) (n - i.toNat) (c - i.toNat):=(rfl)
theorem isSl_takeP{α:Type} [Rep α]{u:U}{h:H}{a:Option Addr}{n c:Nat}{l:List α}(hs:IsSl u h (.slice a n c) l){k:Nat}(hk:k≤l.length):IsSl u h (.slice a k c) (l.take k):=by
 obtain⟨a',n',c',h1,h2,h3,h4,h5,h6⟩:=hs
 simp only[Value.slice.injEq]at h1
 obtain⟨rfl,rfl,rfl⟩:=h1
 have hl:(l.take k).length=k:=by rw[List.length_take];omega
 refine⟨a,k,c,rfl,hl.symm,by omega,h4,h5,fun hne=> ?_⟩
 have hne':l≠[]:=fun e=>hne (by rw[e];simp)
 obtain⟨b,o,e,hb,hu,hz,hr⟩:=h6 hne'
 have:=Nat.mul_le_mul_right (Rep.sz α) hk
 refine⟨b,o,e,hb,by rw[hl];omega,by rw[hl];omega,fun i x hx=>hr i x ?_⟩
 rw[List.getElem?_take]at hx
 split at hx
 ·exact hx
 ·cases hx
theorem isSl_dropP{α:Type} [Rep α]{u:U}{h:H}{a:Option Addr}{n c:Nat}{l:List α}(hs:IsSl u h (.slice a n c) l){k:Nat}(hk:k<l.length)(m:Nat)(hm:m=sz α):IsSl u h (.slice (if c=k then a else a.map (·.add (k*m))) (n - k) (c - k)) (l.drop k):=by
 obtain⟨a',n',c',h1,h2,h3,h4,h5,h6⟩:=hs
 simp only[Value.slice.injEq]at h1
 obtain⟨rfl,rfl,rfl⟩:=h1
 subst hm
 rw[if_neg (by omega)]
 have hne':l≠[]:=fun e=>by rw[e]at hk;simp at hk
 obtain⟨b,o,e,hb,hu,hz,hr⟩:=h6 hne'
 subst e
 have hl:(l.drop k).length=l.length - k:=List.length_drop
 have hmul:k*sz α+(l.length - k)*sz α=l.length*sz α:=by rw[←Nat.add_mul];congr 1;omega
 refine⟨_,_,_,rfl,by omega,by omega,by omega,(fun h=>by cases h),fun _=>⟨b,o+k*sz α,by simp [Addr.add],hb,by rw[hl];omega,by rw[hl];omega,fun i x hx=> ?_⟩⟩
 rw[List.getElem?_drop]at hx
 have:=hr (k+i) x hx
 rw[Nat.add_mul,←Nat.add_assoc]at this
 exact this
end Go.Ev
namespace Go.Proofs.YtmjinnbdnpedcaaGreat
open Go Go.Ev Edict
theorem tdivN{a b:Int}(h:0≤a):a.tdiv b=a / b:=Int.tdiv_eq_ediv_of_nonneg h
def TxtP(l:List Put):Prop:= ∀x∈l,x.1.2.2.1.length≤9223372036854775807
def C_merged(vs:List Value)(h:H)(K:Value→H→Prop):Prop:= ∃(u:U) (v w:Value) (k:Bool) (a b:List Put),vs=[v,w,.bool k]∧IsSl u h v a∧IsSl u h w b∧TxtP a∧a.length+b.length≤1000000∧ ∀u' h' r,Step S0 u h u' h'→IsSl u' h' r (mergeF (ltP k) a b)→K r h'
def G_rfMerged:Ctr:=fun f vs h K _=>f=76∧C_before vs h K
theorem G_rfMerged_ok:GOk Tryz.prog G_rfMerged:=by
 rintro f vs h K KP ⟨rfl,hC⟩;exact rfBefore_ok hC
theorem merge_left{lt:Put→Put→Bool}{a b:List Put}{i j:Nat}{x:Put}(hx:a[i]? =some x)(h: ∀y,b[j]? =some y→lt x y=true):mergeF lt (a.drop i) (b.drop j)=x::mergeF lt (a.drop (i+1)) (b.drop j):=by
 obtain⟨hi,e⟩:=List.getElem?_eq_some_iff.1 hx
 have ha:a.drop i=x::a.drop (i+1):=by rw[←e];exact List.drop_eq_getElem_cons hi
 rw[ha]
 by_cases hj:j<b.length
 ·have hb:b.drop j=b[j]::b.drop (j+1):=List.drop_eq_getElem_cons hj
  rw[hb,mergeF,if_pos (h _ (by simp [hj]))]
 ·have hb0:b.drop j=[]:=List.drop_eq_nil_iff.2 (by omega)
  rw[hb0,mergeF_nil,mergeF_nil]
theorem merge_right{lt:Put→Put→Bool}{a b:List Put}{i j:Nat}{y:Put}(hy:b[j]? =some y)(h: ∀x,a[i]? =some x→lt x y=false):mergeF lt (a.drop i) (b.drop j)=y::mergeF lt (a.drop i) (b.drop (j+1)):=by
 obtain⟨hj,e⟩:=List.getElem?_eq_some_iff.1 hy
 have hb:b.drop j=y::b.drop (j+1):=by rw[←e];exact List.drop_eq_getElem_cons hj
 rw[hb]
 by_cases hi:i<a.length
 ·have ha:a.drop i=a[i]::a.drop (i+1):=List.drop_eq_getElem_cons hi
  rw[ha,mergeF,if_neg (by rw[h _ (by simp [hi])];simp)]
 ·have ha0:a.drop i=[]:=List.drop_eq_nil_iff.2 (by omega)
  rw[ha0,mergeF,mergeF]
theorem rfMerged_ok{vs:List Value}{h:H}{K:Value→H→Prop}{KP:List PanicEntry→H→Prop}(hC:C_merged vs h K):HCX Tryz.prog 63 vs h K KP:=by
 obtain⟨u,v,w,k,a,b,rfl,ha,hb,hta,hlen,hK⟩:=hC
 obtain⟨aa,ac,rfl,q1,q2⟩:=ha.sl
 obtain⟨ba,bc,rfl,q3,q4⟩:=hb.sl
 have hm:=mlen'
 refine rfMerged_H G_rfMerged G_rfMerged_ok _ _ _ ?_
 simp(disch:=first|omega|(simp only[zz];try omega;done)) only[go_sem,rfMerged_S,rfMerged_E]
 obtain⟨I,hI⟩: ∃I:Nat×Nat→Env→H→Prop,I=fun ij σ h'=>σ 0= .slice aa a.length ac∧σ 1= .slice ba b.length bc∧σ 2= .bool k∧σ 8= .int .i64 ij.1∧σ 9= .int .i64 ij.2∧ij.1≤a.length∧ij.2≤b.length∧ ∃u' out,Step S0 u h u' h'∧Own h.size u' h' (σ 7) out∧out.length=ij.1+ij.2∧mergeF (ltP k) a b=out++mergeF (ltP k) (a.drop ij.1) (b.drop ij.2):=⟨_,rfl⟩
 refine wpS_loop I (fun ij=>(a.length - ij.1)+(b.length - ij.2)) (0,0) (by rw[hI];exact⟨by simp [upd],by simp [upd],by simp [upd],by simp [upd],by simp [upd],Nat.zero_le _,Nat.zero_le _,u,([]:List Put),.refl _ _ _,by simp only[upd];exact .nil _ _ _,rfl,rfl⟩) ?_
 rintro ⟨i,j⟩ σ h' hy
 rw[hI]at hy
 simp only at hy
 obtain⟨e0,e1,e2,e8,e9,hi,hj,u',out,st,ho,hol,heq⟩:=hy
 obtain⟨sa,sc,hσ7,-,-⟩:=ho.sl
 rw[hσ7]at ho
 -- the left one goes in
 have finA: ∀(σ':Env) (u2:U) (h2:H) (x:Put) (KP':List PanicEntry→H→Prop) (r:List St) (Q:Env→H→Prop),a[i]? =some x→Step S0 u' h' u2 h2→(∀y,b[j]? =some y→ltP k x y=true)→
   (∀n a9 c9 u3 h3,Step S0 u h u3 h3→Own h.size u3 h3 (.slice a9 n c9) (out++[x])→mergeF (ltP k) a b=(out++[x])++mergeF (ltP k) (a.drop (i+1)) (b.drop j)→wpSts G_rfMerged r Q KP' (updo σ' (some 61) (.slice a9 n c9)) h3)→
   effS G_rfMerged (.app 58 6 56 [.int .i64 0,.int .i64 0,str [],.int .i64 0,.int .i64 0,.int .i64 0]) (some 61) [] r Q KP' [.slice sa out.length sc,.slice (some ⟨h2.size,0,none⟩) 1 1] σ' (h2.push (.cells #[.int .i64 x.1.1,.int .i64 x.1.2.1,str x.1.2.2.1,.int .i64 x.1.2.2.2,.int .i64 x.2.1,.int .i64 x.2.2] 58)):=by
  intro σ' u2 h2 x KP' r Q hx s2 hlt hq
  have hrx:Rep.rep u2 h2 x [.int .i64 x.1.1,.int .i64 x.1.2.1,str x.1.2.2.1,.int .i64 x.1.2.2.2,.int .i64 x.2.1,.int .i64 x.2.2]:=by rw[rep_put];rfl
  have ho2:=ho.step0 s2
  refine effS_app1 (e':=58) (cs:=[.int .i64 x.1.1,.int .i64 x.1.2.1,str x.1.2.2.1,.int .i64 x.1.2.2.2,.int .i64 x.2.1,.int .i64 x.2.2]) ho2 hrx rfl rfl (by have:=st.ge.sz;have:=s2.ge.sz;omega) (by omega) fun a9 n c9 u3 h3 ho3 s3=>⟨by simp only[e_stab0],hq n a9 c9 u3 h3 ((st.trans0 s2).own s3 fun b hb=>ho2.ge hb) ho3 ?_⟩
  rw[heq,merge_left hx hlt,List.append_assoc];rfl
 have finB: ∀(σ':Env) (u2:U) (h2:H) (y:Put) (KP':List PanicEntry→H→Prop) (r:List St) (Q:Env→H→Prop),b[j]? =some y→Step S0 u' h' u2 h2→(∀x,a[i]? =some x→ltP k x y=false)→
   (∀n a9 c9 u3 h3,Step S0 u h u3 h3→Own h.size u3 h3 (.slice a9 n c9) (out++[y])→mergeF (ltP k) a b=(out++[y])++mergeF (ltP k) (a.drop i) (b.drop (j+1))→wpSts G_rfMerged r Q KP' (updo σ' (some 70) (.slice a9 n c9)) h3)→
   effS G_rfMerged (.app 58 6 56 [.int .i64 0,.int .i64 0,str [],.int .i64 0,.int .i64 0,.int .i64 0]) (some 70) [] r Q KP' [.slice sa out.length sc,.slice (some ⟨h2.size,0,none⟩) 1 1] σ' (h2.push (.cells #[.int .i64 y.1.1,.int .i64 y.1.2.1,str y.1.2.2.1,.int .i64 y.1.2.2.2,.int .i64 y.2.1,.int .i64 y.2.2] 58)):=by
  intro σ' u2 h2 x KP' r Q hx s2 hlt hq
  have hrx:Rep.rep u2 h2 x [.int .i64 x.1.1,.int .i64 x.1.2.1,str x.1.2.2.1,.int .i64 x.1.2.2.2,.int .i64 x.2.1,.int .i64 x.2.2]:=by rw[rep_put];rfl
  have ho2:=ho.step0 s2
  refine effS_app1 (e':=58) (cs:=[.int .i64 x.1.1,.int .i64 x.1.2.1,str x.1.2.2.1,.int .i64 x.1.2.2.2,.int .i64 x.2.1,.int .i64 x.2.2]) ho2 hrx rfl rfl (by have:=st.ge.sz;have:=s2.ge.sz;omega) (by omega) fun a9 n c9 u3 h3 ho3 s3=>⟨by simp only[e_stab0],hq n a9 c9 u3 h3 ((st.trans0 s2).own s3 fun b hb=>ho2.ge hb) ho3 ?_⟩
  rw[heq,merge_right hx hlt,List.append_assoc];rfl
 by_cases hja:i<a.length
 ·obtain⟨x,hs⟩: ∃x,a[i]? =some x:=⟨a[i],by simp [hja]⟩
  obtain⟨pb,po,rfl,hpb,hpu,hpz,hpr⟩:=(ha.mono st.ge).row i x hs
  simp only[rep_put,Put.enc,sz_put,hvs_6,List.cons.injEq,and_true]at hpr hpu hpz
  obtain⟨p0,p1,p2,p3,p4,p5⟩:=hpr
  by_cases hjb:j<b.length
  ·obtain⟨y,hsy⟩: ∃y,b[j]? =some y:=⟨b[j],by simp [hjb]⟩
   obtain⟨qb,qo,rfl,hqb,hqu,hqz,hqr⟩:=(hb.mono st.ge).row j y hsy
   simp only[rep_put,Put.enc,sz_put,hvs_6,List.cons.injEq,and_true]at hqr hqu hqz
   obtain⟨g0,g1,g2,g3,g4,g5⟩:=hqr
   have hxl:=hta x (List.mem_of_getElem? hs)
   cases k with
   |true=>
    by_cases hlt:x.2.2<y.2.2
    ·have hl:ltP true x y=true:=ltP_true.2 hlt
     simp(disch:=first|omega|(simp only[zz];try omega;done)) only[↓reduceIte,go_sem,rfMerged_L1,e0,e1,e2,e8,e9,hja,hjb,p0,p1,p2,p3,p4,p5,g5,eq_true hlt,hσ7]
     refine finA _ u' h' x _ _ _ hs (.refl _ _ _) (fun z hz=>by rw[hsy]at hz;cases hz;exact hl) fun n a9 c9 u3 h3 st3 ho3 he3=> ?_
     simp(disch:=first|omega|(simp only[zz];try omega;done)) only[↓reduceIte,go_sem,e8]
     refine⟨(i+1,j),?_,by simp only;omega⟩
     rw[hI]
     exact⟨by simp [upd,e0],by simp [upd,e1],by simp [upd,e2],by simp [upd],by simp [upd,e9],hja,hj,u3,_,st3,by simpa [upd]using ho3,by rw[List.length_append,List.length_singleton,hol];simp only;omega,he3⟩
    ·have hl:ltP true x y=false:=by cases hh:ltP true x y with|true=>exact absurd (ltP_true.1 hh) hlt|false=>rfl
     simp(disch:=first|omega|(simp only[zz];try omega;done)) only[↓reduceIte,go_sem,rfMerged_L1,e0,e1,e2,e8,e9,hja,hjb,p5,g0,g1,g2,g3,g4,g5,eq_false hlt,hσ7]
     refine finB _ u' h' y _ _ _ hsy (.refl _ _ _) (fun z hz=>by rw[hs]at hz;cases hz;exact hl) fun n a9 c9 u3 h3 st3 ho3 he3=> ?_
     simp(disch:=first|omega|(simp only[zz];try omega;done)) only[↓reduceIte,go_sem,e9]
     refine⟨(i,j+1),?_,by simp only;omega⟩
     rw[hI]
     exact⟨by simp [upd,e0],by simp [upd,e1],by simp [upd,e2],by simp [upd,e8],by simp [upd],hi,hjb,u3,_,st3,by simpa [upd]using ho3,by rw[List.length_append,List.length_singleton,hol];simp only;omega,he3⟩
   |false=>
    simp(disch:=first|omega|(simp only[zz];try omega;done)) only[↓reduceIte,go_sem,rfMerged_L1,e0,e1,e2,e8,e9,hja,hjb,p0,p1,p2,p3,p4,p5,g0,g1,g2,g3,g4,g5]
    refine effS_call ⟨rfl,u',x,y,rfl,hxl,fun u2 h2 s2=>⟨zz0,?_⟩⟩
    obtain⟨pb',po',hpe,hpb,hpu,hpz,hpr⟩:=(ha.mono (st.trans0 s2).ge).row i x hs
    simp only[Option.some.injEq,Addr.mk.injEq,and_true]at hpe
    obtain⟨rfl,rfl⟩:=hpe
    simp only[rep_put,Put.enc,sz_put,hvs_6,List.cons.injEq,and_true]at hpr hpu hpz
    obtain⟨p0,p1,p2,p3,p4,p5⟩:=hpr
    obtain⟨qb',qo',hqe,hqb,hqu,hqz,hqr⟩:=(hb.mono (st.trans0 s2).ge).row j y hsy
    simp only[Option.some.injEq,Addr.mk.injEq,and_true]at hqe
    obtain⟨rfl,rfl⟩:=hqe
    simp only[rep_put,Put.enc,sz_put,hvs_6,List.cons.injEq,and_true]at hqr hqu hqz
    obtain⟨g0,g1,g2,g3,g4,g5⟩:=hqr
    cases hl:ltP false x y with
    |true=>
     simp(disch:=first|omega|(simp only[zz];try omega;done)) only[↓reduceIte,go_sem,e0,e8,hja,p0,p1,p2,p3,p4,p5,hσ7]
     refine finA _ u2 h2 x _ _ _ hs s2 (fun z hz=>by rw[hsy]at hz;cases hz;exact hl) fun n a9 c9 u3 h3 st3 ho3 he3=> ?_
     simp(disch:=first|omega|(simp only[zz];try omega;done)) only[↓reduceIte,go_sem,e8]
     refine⟨(i+1,j),?_,by simp only;omega⟩
     rw[hI]
     exact⟨by simp [upd,e0],by simp [upd,e1],by simp [upd,e2],by simp [upd],by simp [upd,e9],hja,hj,u3,_,st3,by simpa [upd]using ho3,by rw[List.length_append,List.length_singleton,hol];simp only;omega,he3⟩
    |false=>
     simp(disch:=first|omega|(simp only[zz];try omega;done)) only[↓reduceIte,go_sem,e1,e9,hjb,g0,g1,g2,g3,g4,g5,hσ7]
     refine finB _ u2 h2 y _ _ _ hsy s2 (fun z hz=>by rw[hs]at hz;cases hz;exact hl) fun n a9 c9 u3 h3 st3 ho3 he3=> ?_
     simp(disch:=first|omega|(simp only[zz];try omega;done)) only[↓reduceIte,go_sem,e9]
     refine⟨(i,j+1),?_,by simp only;omega⟩
     rw[hI]
     exact⟨by simp [upd,e0],by simp [upd,e1],by simp [upd,e2],by simp [upd,e8],by simp [upd],hi,hjb,u3,_,st3,by simpa [upd]using ho3,by rw[List.length_append,List.length_singleton,hol];simp only;omega,he3⟩
  ·obtain rfl:j=b.length:=by omega
   simp(disch:=first|omega|(simp only[zz];try omega;done)) only[↓reduceIte,go_sem,rfMerged_L1,e0,e1,e8,e9,hja,eq_true (Int.le_refl (b.length:Int)),eq_false (Int.lt_irrefl (b.length:Int)),p0,p1,p2,p3,p4,p5,hσ7]
   refine finA _ u' h' x _ _ _ hs (.refl _ _ _) (fun z hz=>by simp at hz) fun n a9 c9 u3 h3 st3 ho3 he3=> ?_
   simp(disch:=first|omega|(simp only[zz];try omega;done)) only[↓reduceIte,go_sem,e8]
   refine⟨(i+1,b.length),?_,by simp only;omega⟩
   rw[hI]
   exact⟨by simp [upd,e0],by simp [upd,e1],by simp [upd,e2],by simp [upd],by simp [upd,e9],hja,hj,u3,_,st3,by simpa [upd]using ho3,by rw[List.length_append,List.length_singleton,hol];simp only;omega,he3⟩
 ·obtain rfl:i=a.length:=by omega
  by_cases hjb:j<b.length
  ·obtain⟨y,hsy⟩: ∃y,b[j]? =some y:=⟨b[j],by simp [hjb]⟩
   obtain⟨qb,qo,rfl,hqb,hqu,hqz,hqr⟩:=(hb.mono st.ge).row j y hsy
   simp only[rep_put,Put.enc,sz_put,hvs_6,List.cons.injEq,and_true]at hqr hqu hqz
   obtain⟨g0,g1,g2,g3,g4,g5⟩:=hqr
   simp(disch:=first|omega|(simp only[zz];try omega;done)) only[↓reduceIte,go_sem,rfMerged_L1,e0,e1,e8,e9,hjb,g0,g1,g2,g3,g4,g5,hσ7]
   refine finB _ u' h' y _ _ _ hsy (.refl _ _ _) (fun z hz=>by simp at hz) fun n a9 c9 u3 h3 st3 ho3 he3=> ?_
   simp(disch:=first|omega|(simp only[zz];try omega;done)) only[↓reduceIte,go_sem,e9]
   refine⟨(a.length,j+1),?_,by simp only;omega⟩
   rw[hI]
   exact⟨by simp [upd,e0],by simp [upd,e1],by simp [upd,e2],by simp [upd,e8],by simp [upd],hi,hjb,u3,_,st3,by simpa [upd]using ho3,by rw[List.length_append,List.length_singleton,hol];simp only;omega,he3⟩
  ·obtain rfl:j=b.length:=by omega
   rw[List.drop_length,List.drop_length,mergeF,List.append_nil]at heq
   simp(disch:=first|omega|(simp only[zz];try omega;done)) only[↓reduceIte,go_sem,rfMerged_L1,e0,e1,e8,e9,hσ7]
   exact hK _ _ _ st (by rw[heq];exact ho.isSl)
end Go.Proofs.YtmjinnbdnpedcaaGreat
