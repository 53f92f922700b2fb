/- The reference's Build: sorting; first comings. -/
import Derived.Test.YtmjinnbdnpedcaaGreatCbF
namespace Edict
theorem DistP.drop{l:List Put}{k:Nat}(h:DistP l):DistP (l.drop k):=List.Pairwise.sublist (List.drop_sublist k l) h
theorem DistP.take{l:List Put}{k:Nat}(h:DistP l):DistP (l.take k):=List.Pairwise.sublist (List.take_sublist k l) h
theorem oneF_nil(p:Option Const):oneF p []=[]:=rfl
theorem oneF_cons(p:Option Const)(x:Put)(l:List Put):oneF p (x::l)=if p=some (cnst x.1)then oneF p l else x::oneF (some (cnst x.1)) l:=rfl
def lastC(p:Option Const)(l:List Put):Option Const:=match l.getLast? with
 |some x=>some (cnst x.1)
 |none=>p
theorem oneF_snoc(p:Option Const): ∀(l:List Put) (x:Put),oneF p (l++[x])=oneF p l++if lastC p l=some (cnst x.1)then []else [x]:=by
 intro l
 induction l generalizing p with
 |nil=>intro x;simp only[List.nil_append,oneF_cons,oneF_nil,lastC,List.getLast?_nil];by_cases e:p=some (cnst x.1)<;>simp [e]
 |cons y l ih=>
  intro x
  have hl: ∀q:Option Const,lastC p (y::l)=lastC (some (cnst y.1)) l:=by
   intro _
   unfold lastC
   cases l with
   |nil=>rfl
   |cons z l=>rw[List.getLast?_cons_cons];cases h:(z::l).getLast? with
    |some w=>rfl
    |none=>simp at h
  rw[List.cons_append,oneF_cons,oneF_cons,hl p]
  by_cases e:p=some (cnst y.1)
  ·rw[if_pos e,if_pos e,ih,←e]
  ·rw[if_neg e,if_neg e,ih,List.cons_append]
end Edict
namespace Go.Proofs.YtmjinnbdnpedcaaGreat
open Go Go.Ev Edict
def C_sorted(n:Nat)(vs:List Value)(h:H)(K:Value→H→Prop):Prop:= ∃(u:U) (v:Value) (k:Bool) (l:List Put),vs=[v,.bool k]∧IsSl u h v l∧l.length≤n∧n≤1000000∧DistP l∧TxtP l∧ ∀u' h' w r,Step S0 u h u' h'→SortR k l r→IsSl u' h' w r→K w h'
def G_sorted(n:Nat):Ctr:=fun f vs h K _=>(f=39∧C_sorted n vs h K)∨(f=63∧C_merged vs h K)
theorem sorted_small{G:Ctr}(hG:GOk Tryz.prog G){u:U}{h:H}{v:Value}{k:Bool}{l:List Put}{K:Value→H→Prop}{KP:List PanicEntry→H→Prop}(hl:IsSl u h v l)(h2:l.length<2)(hK: ∀u' h' w r,Step S0 u h u' h'→SortR k l r→IsSl u' h' w r→K w h'):HCX Tryz.prog 39 [v,.bool k] h K KP:=by
 obtain⟨la,lc,rfl,q1,q2⟩:=hl.sl
 have hm:=mlen'
 refine rfSorted_H G hG _ _ ?_
 simp(disch:=first|omega|(simp only[zz];try omega;done)) only[↓reduceIte,go_sem,rfSorted_S,rfSorted_E,eq_true (show(l.length:Int)<2 by omega)]
 have o1:=own_empty (α:=Put) h.size u h (Nat.le_refl _) 58
 have spA:=Step.push0 S0 u h #[] 58
 refine effS_app (k:=h.size) o1 (hl.mono spA.ge) rfl rfl (by simp only[e_psz];omega) (by simp only[List.length_nil];omega) fun a n c u3 h3 ho3 s3=>⟨zz0,?_⟩
 rw[List.nil_append]at ho3
 simp(disch:=first|omega|(simp only[zz];try omega;done)) only[↓reduceIte,go_sem]
 exact hK _ _ _ l (spA.own s3 fun j hj=>o1.ge hj) (SortR.small h2) ho3.isSl
theorem rfSorted_ok: ∀(n:Nat) {vs:List Value} {h:H} {K:Value→H→Prop} {KP:List PanicEntry→H→Prop},C_sorted n vs h K→HCX Tryz.prog 39 vs h K KP:=by
 intro n
 induction n with
 |zero=>
  intro vs h K KP hC
  obtain⟨u,v,k,l,rfl,hl,hln,-,-,-,hK⟩:=hC
  exact sorted_small (G:=fun _ _ _ _ _=>False) (fun _ _ _ _ _ h=>h.elim) hl (by omega) hK
 |succ n ih=>
  intro vs h K KP hC
  obtain⟨u,v,k,l,rfl,hl,hln,hn,hd,ht,hK⟩:=hC
  by_cases h2:l.length<2
  ·exact sorted_small (G:=fun _ _ _ _ _=>False) (fun _ _ _ _ _ h=>h.elim) hl h2 hK
  obtain⟨la,lc,rfl,q1,q2⟩:=hl.sl
  have hm:=mlen'
  have hG:GOk Tryz.prog (G_sorted n):=by
   rintro f vs h K KP (⟨rfl,hC⟩|⟨rfl,hC⟩)
   ·exact ih hC
   ·exact rfMerged_ok hC
  obtain⟨m,hmd⟩: ∃m:Nat,(l.length:Int) / 2=m:=⟨l.length / 2,by omega⟩
  have hml:m<l.length:=by omega
  have hm1:1≤m:=by omega
  refine rfSorted_H (G_sorted n) hG _ _ ?_
  simp(disch:=first|omega|(simp only[zz];try omega;done)) only[↓reduceIte,go_sem,rfSorted_S,rfSorted_E,eq_false (show¬(l.length:Int)<2 by omega),tdivN,hmd]
  refine⟨by omega,?_⟩
  refine effS_call (.inl ⟨rfl,u,_,k,l.take m,rfl,isSl_takeP hl (by omega),by rw[List.length_take];omega,by omega,hd.take,fun x hx=>ht x (List.mem_of_mem_take hx),fun u2 h2' w2 r2 s2 hr2 hw2=>⟨zz0,?_⟩⟩)
  simp(disch:=first|omega|(simp only[zz];try omega;done)) only[↓reduceIte,go_sem,e_cutLoV]
  refine⟨by omega,?_⟩
  refine effS_call (.inl ⟨rfl,u2,_,k,l.drop m,rfl,(isSl_dropP hl hml 6 rfl).mono s2.ge,by rw[List.length_drop];omega,by omega,hd.drop,fun x hx=>ht x (List.mem_of_mem_drop hx),fun u3 h3 w3 r3 s3 hr3 hw3=>⟨zz0,?_⟩⟩)
  have st3:=s2.trans0 s3
  have l2:=hr2.1.length_eq
  have l3:=hr3.1.length_eq
  rw[List.length_take]at l2
  rw[List.length_drop]at l3
  simp(disch:=first|omega|(simp only[zz];try omega;done)) only[↓reduceIte,go_sem]
  refine effS_call (.inr ⟨rfl,u3,_,_,k,r2,r3,rfl,hw2.mono s3.ge,hw3,fun x hx=>ht x (List.mem_of_mem_take (hr2.1.mem_iff.1 hx)),by omega,fun u4 h4 r s4 hr=>⟨zz0,?_⟩⟩)
  simp(disch:=first|omega|(simp only[zz];try omega;done)) only[↓reduceIte,go_sem]
  have hmg:=SortR.merge (a:=l.take m) (b:=l.drop m) (by rw[List.take_append_drop];exact hd) hr2 hr3
  rw[List.take_append_drop]at hmg
  exact hK _ _ _ _ (st3.trans0 s4) hmg hr
def C_firstsR(vs:List Value)(h:H)(K:Value→H→Prop):Prop:= ∃(u:U) (v:Value) (l:List Put),vs=[v]∧IsSl u h v l∧l.length≤1000000∧(l.Pairwise fun x y=>x.2.2<y.2.2)∧TxtP l∧ ∀u' h' w,Step S0 u h u' h'→IsSl u' h' w (firstsF [] l)→K w h'
def G_rfFirsts:Ctr:=fun f vs h K _=>(f=39∧ ∃n,C_sorted n vs h K)∨(f=13∧C_cnst vs h K)∨(f=40∧C_sameC vs h K)
theorem G_rfFirsts_ok:GOk Tryz.prog G_rfFirsts:=by
 rintro f vs h K KP (⟨rfl,n,hC⟩|⟨rfl,hC⟩|⟨rfl,hC⟩)
 ·exact rfSorted_ok n hC
 ·exact rfConst_ok hC
 ·exact r1Same_ok hC
theorem rfFirsts_ok{vs:List Value}{h:H}{K:Value→H→Prop}{KP:List PanicEntry→H→Prop}(hC:C_firstsR vs h K):HCX Tryz.prog 12 vs h K KP:=by
 obtain⟨u,v,l,rfl,hl,hll,hup,htx,hK⟩:=hC
 obtain⟨la,lc,rfl,q1,q2⟩:=hl.sl
 have hm:=mlen'
 refine rfFirsts_H G_rfFirsts G_rfFirsts_ok _ ?_
 simp(disch:=first|omega|(simp only[zz];try omega;done)) only[go_sem,rfFirsts_S,rfFirsts_E]
 obtain⟨I,hI⟩: ∃I:Nat→Env→H→Prop,I=fun i σ h'=>σ 0= .slice la l.length lc∧σ 4= .int .i64 i∧i≤l.length∧ ∃u',Step S0 u h u' h'∧Own h.size u' h' (σ 3) ((l.take i).filter isK):=⟨_,rfl⟩
 refine wpS_loop I (fun i=>l.length - i) 0 (by rw[hI];exact⟨by simp [upd],by simp [upd],Nat.zero_le _,u,.refl _ _ _,by simp only[upd];exact .nil _ _ _⟩) ?_
 intro i σ h' hy
 rw[hI]at hy
 obtain⟨e0,e4,hi,u',st,ho⟩:=hy
 by_cases hlt:i<l.length
 ·obtain⟨x,hs⟩: ∃x,l[i]? =some x:=⟨l[i],by simp [hlt]⟩
  obtain⟨pb,po,rfl,hpb,hpu,hpz,hpr⟩:=(hl.mono st.ge).row i x hs
  simp only[rep_put,Put.enc,sz_put,hvs_6,List.cons.injEq,and_true]at hpr hpu hpz
  obtain⟨p0,p1,p2,p3,p4,p5⟩:=hpr
  have hsn:=filt_snoc (p:=isK) hs
  have hfl:((l.take i).filter isK).length≤i:=Nat.le_trans (List.length_filter_le _ _) (by rw[List.length_take];exact Nat.min_le_left _ _)
  by_cases h4:x.1.1=4
  ·have hk:isK x=false:=by unfold isK;rw[decide_eq_true h4];rfl
   rw[hk,if_neg (by simp),List.append_nil]at hsn
   simp(disch:=first|omega|(simp only[zz];try omega;done)) only[↓reduceIte,go_sem,rfFirsts_L1,e0,e4,hlt,p0,eq_true h4]
   refine⟨i+1,?_,by omega⟩
   rw[hI]
   exact⟨by simp [upd,e0],by simp [upd],hlt,u',st,by rw[hsn];simpa [upd]using ho⟩
  ·have hk:isK x=true:=by unfold isK;rw[decide_eq_false h4];rfl
   rw[hk,if_pos rfl]at hsn
   have hrx:Rep.rep u' h' x [.int .i64 x.1.1,.int .i64 x.1.2.1,str x.1.2.2.1,.int .i64 x.1.2.2.2,.int .i64 x.2.1,.int .i64 x.2.2]:=by rw[rep_put];rfl
   simp(disch:=first|omega|(simp only[zz];try omega;done)) only[↓reduceIte,go_sem,rfFirsts_L1,e0,e4,hlt,p0,p1,p2,p3,p4,p5,eq_false h4]
   refine effS_app1 (e':=58) (cs:=[.int .i64 x.1.1,.int .i64 x.1.2.1,str x.1.2.2.1,.int .i64 x.1.2.2.2,.int .i64 x.2.1,.int .i64 x.2.2]) ho hrx rfl rfl st.ge.sz (by omega) fun a n c u3 h3 ho3 s3=>⟨zz0,?_⟩
   simp(disch:=first|omega|(simp only[zz];try omega;done)) only[↓reduceIte,go_sem,e4]
   refine⟨i+1,?_,by omega⟩
   rw[hI]
   exact⟨by simp [upd,e0],by simp [upd],hlt,u3,st.own s3 fun j hj=>ho.ge hj,by rw[hsn];simpa [upd]using ho3⟩
 ·obtain rfl:i=l.length:=by omega
  rw[List.take_length]at ho
  have hdl:DistP l:=hup.imp fun h e=>by omega
  have hfl:(l.filter isK).length≤l.length:=List.length_filter_le _ _
  have hsl:=ho.isSl
  obtain⟨sa,sc,hσ3,-,-⟩:=ho.sl
  rw[hσ3]at hsl
  simp(disch:=first|omega|(simp only[zz];try omega;done)) only[↓reduceIte,go_sem,rfFirsts_L1,e0,e4,hσ3]
  refine effS_call (.inl ⟨rfl,_,u',_,false,l.filter isK,rfl,hsl,Nat.le_refl _,by omega,hdl.sublist List.filter_sublist,fun x hx=>htx x (List.mem_filter.1 hx).1,fun u2 h2 w2 s s2 hs2 hw2=>⟨zz0,?_⟩⟩)
  have st2:=st.trans0 s2
  have hsn:=hs2.1.length_eq
  obtain⟨wa,wc,rfl,-,-⟩:=hw2.sl
  simp(disch:=first|omega|(simp only[zz];try omega;done)) only[↓reduceIte,go_sem]
  clear hI I
  obtain⟨J,hJ⟩: ∃J:Nat→Env→H→Prop,J=fun i σ h'=>σ 3= .slice wa s.length wc∧σ 6= .int .i64 i∧i≤s.length∧ ∃u',Step S0 u h u' h'∧IsSl u' h' (.slice wa s.length wc) s∧Own h.size u' h' (σ 5) (oneF none (s.take i)):=⟨_,rfl⟩
  refine wpS_loop J (fun i=>s.length - i) 0 (by rw[hJ];exact⟨by simp [upd],by simp [upd],Nat.zero_le _,u2,st2,hw2,by simp only[upd];exact .nil _ _ _⟩) ?_
  clear e0 e4 ho st hsl hσ3
  intro j τ h7 hy
  rw[hJ]at hy
  obtain⟨f3,f6,hj,u7,st7,iS,ho7⟩:=hy
  by_cases hjl:j<s.length
  ·obtain⟨x,hx⟩: ∃x,s[j]? =some x:=⟨s[j],by simp [hjl]⟩
   obtain⟨pb,po,hpe,hpb,hpu,hpz,hpr⟩:=iS.row j x hx
   subst hpe
   simp only[rep_put,Put.enc,sz_put,hvs_6,List.cons.injEq,and_true]at hpr hpu hpz
   obtain⟨p0,p1,p2,p3,p4,p5⟩:=hpr
   have htk:s.take (j+1)=s.take j++[x]:=by rw[List.take_add_one,hx];rfl
   have hol:(oneF none (s.take j)).length≤j:=Nat.le_trans (oneF_sub _ _).length_le (by rw[List.length_take];exact Nat.min_le_left _ _)
   obtain⟨oa,oc,hτ5,-,-⟩:=ho7.sl
   rw[hτ5]at ho7
   have hrx: ∀u9 h9,Rep.rep u9 h9 x [.int .i64 x.1.1,.int .i64 x.1.2.1,str x.1.2.2.1,.int .i64 x.1.2.2.2,.int .i64 x.2.1,.int .i64 x.2.2]:=fun u9 h9=>by rw[rep_put];rfl
   by_cases h0:j=0
   ·subst h0
    rw[List.take_zero,oneF_nil]at ho7 hτ5
    have hon:oneF none (s.take (0+1))=[]++[x]:=by rw[htk,List.take_zero];rfl
    simp only[List.length_nil]at ho7 hτ5
    have f6':τ 6= .int .i64 0:=f6
    have hjl':(0:Int)<s.length:=by omega
    have q0:0<s.length:=hjl
    rw[Nat.zero_mul,Nat.add_zero]at p0 p1 p2 p3 p4 p5 hpu hpz
    simp(disch:=first|omega|(simp only[zz];try omega;done)) only[↓reduceIte,go_sem,rfFirsts_L2,f3,f6',eq_true hjl',p0,p1,p2,p3,p4,p5,hτ5]
    refine effS_app1 (e':=58) (cs:=[.int .i64 x.1.1,.int .i64 x.1.2.1,str x.1.2.2.1,.int .i64 x.1.2.2.2,.int .i64 x.2.1,.int .i64 x.2.2]) ho7 (hrx _ _) rfl rfl st7.ge.sz (by simp only[List.length_nil];omega) fun a n c u3 h3 ho3 s3=>⟨zz0,?_⟩
    simp(disch:=first|omega|(simp only[zz];try omega;done)) only[↓reduceIte,go_sem,f6']
    refine⟨0+1,?_,by omega⟩
    rw[hJ]
    exact⟨by simp [upd,f3],by simp [upd],by omega,u3,st7.own s3 fun j hj=>ho7.ge hj,iS.mono s3.ge,by rw[hon];simpa [upd]using ho3⟩
   ·obtain⟨z,hz⟩: ∃z,s[j - 1]? =some z:=⟨s[j - 1],by rw[List.getElem?_eq_getElem (by omega)]⟩
    obtain⟨pb2,po2,hpe2,hpb2,hpu2,hpz2,hpr2⟩:=iS.row (j - 1) z hz
    simp only[Option.some.injEq,Addr.mk.injEq,and_true]at hpe2
    obtain⟨rfl,rfl⟩:=hpe2
    simp only[rep_put,Put.enc,sz_put,hvs_6,List.cons.injEq,and_true]at hpr2 hpu2 hpz2
    obtain⟨z0,z1,z2,z3,z4,z5⟩:=hpr2
    have hlast:lastC none (s.take j)=some (cnst z.1):=by
     unfold lastC
     have:(s.take j).getLast? =some z:=by
      rw[List.getLast?_eq_getElem?,List.length_take,Nat.min_eq_left (by omega),List.getElem?_take,if_pos (by omega),hz]
     rw[this]
    have hon:oneF none (s.take (j+1))=oneF none (s.take j)++if cnst x.1=cnst z.1 then []else [x]:=by
     rw[htk,oneF_snoc,hlast]
     by_cases e:cnst x.1=cnst z.1
     ·rw[if_pos e,if_pos (by rw[e])]
     ·rw[if_neg e,if_neg (fun h=>e (Option.some.inj h).symm)]
    have hj0: ¬((j:Int)=0):=by omega
    have hj1:(j:Int) - 1=((j - 1:Nat):Int):=by omega
    have hjs:j - 1<s.length:=by omega
    simp(disch:=first|omega|(simp only[zz];try omega;done)) only[↓reduceIte,go_sem,rfFirsts_L2,f3,f6,hjl,p0,p1,p2,p3,eq_false hj0,hj1,hjs,z0,z1,z2,z3]
    refine effS_call (.inr (.inl ⟨rfl,u7,x.1,rfl,fun u8 h8 s8=> ?_⟩))
    have iS8:=iS.mono s8.ge
    obtain⟨pb2,po2,hpe2,hpb2,hpu2,hpz2,hpr2⟩:=iS8.row (j - 1) z hz
    simp only[Option.some.injEq,Addr.mk.injEq,and_true]at hpe2
    obtain⟨rfl,rfl⟩:=hpe2
    simp only[rep_put,Put.enc,sz_put,hvs_6,List.cons.injEq,and_true]at hpr2 hpu2 hpz2
    obtain⟨y0,y1,y2,y3,y4,y5⟩:=hpr2
    show stabP _ _ _ _∧_
    refine⟨by simp(disch:=first|omega|(simp only[zz];try omega;done)) only[↓reduceIte,go_sem,f3,f6,eq_false hj0,hj1,y0,y1,y2,y3,z0,z1,z2,z3],?_⟩
    simp(disch:=first|omega|(simp only[zz];try omega;done)) only[↓reduceIte,go_sem,f6,eq_false hj0]
    refine effS_call (.inr (.inl ⟨rfl,u8,z.1,rfl,fun u9 h9 s9=>⟨zz0,?_⟩⟩))
    simp(disch:=first|omega|(simp only[zz];try omega;done)) only[↓reduceIte,go_sem,f6,eq_false hj0]
    refine effS_call (.inr (.inr ⟨rfl,u9,cnst x.1,cnst z.1,rfl,fun u10 h10 s10=>⟨zz0,?_⟩⟩))
    have s710:=(s8.trans0 s9).trans0 s10
    have iS10:=iS.mono s710.ge
    have ho10:=ho7.step0 s710
    have st10:=st7.trans0 s710
    obtain⟨pb3,po3,hpe3,hpb3,hpu3,hpz3,hpr3⟩:=iS10.row j x hx
    simp only[Option.some.injEq,Addr.mk.injEq,and_true]at hpe3
    obtain⟨rfl,rfl⟩:=hpe3
    simp only[rep_put,Put.enc,sz_put,hvs_6,List.cons.injEq,and_true]at hpr3 hpu3 hpz3
    obtain⟨p0,p1,p2,p3,p4,p5⟩:=hpr3
    by_cases he:cnst x.1=cnst z.1
    ·rw[if_pos he,List.append_nil]at hon
     simp(disch:=first|omega|(simp only[zz];try omega;done)) only[↓reduceIte,go_sem,f6,eq_false hj0,eq_true he,decide_true]
     refine⟨j+1,?_,by omega⟩
     rw[hJ]
     exact⟨by simp [upd,f3],by simp [upd],hjl,u10,st10,iS10,by rw[hon];simpa [upd,hτ5]using ho10⟩
    ·rw[if_neg he]at hon
     simp(disch:=first|omega|(simp only[zz];try omega;done)) only[↓reduceIte,go_sem,f3,f6,eq_false hj0,eq_false he,decide_false,hjl,p0,p1,p2,p3,p4,p5,hτ5]
     refine effS_app1 (e':=58) (cs:=[.int .i64 x.1.1,.int .i64 x.1.2.1,str x.1.2.2.1,.int .i64 x.1.2.2.2,.int .i64 x.2.1,.int .i64 x.2.2]) ho10 (hrx _ _) rfl rfl st10.ge.sz (by omega) fun a n c u3 h3 ho3 s3=>⟨zz0,?_⟩
     simp(disch:=first|omega|(simp only[zz];try omega;done)) only[↓reduceIte,go_sem,f6]
     refine⟨j+1,?_,by omega⟩
     rw[hJ]
     exact⟨by simp [upd,f3],by simp [upd],hjl,u3,st10.own s3 fun j hj=>ho10.ge hj,iS10.mono s3.ge,by rw[hon];simpa [upd]using ho3⟩
  ·obtain rfl:j=s.length:=by omega
   rw[List.take_length]at ho7
   have hd1:DistP (oneF none s):=(hs2.1.pairwise_iff (fun h e=>h e.symm) |>.2 (hdl.sublist List.filter_sublist)).sublist (oneF_sub _ _)
   have hol:=(oneF_sub s none).length_le
   obtain⟨oa,oc,hτ5,-,-⟩:=ho7.sl
   have hi7:=ho7.isSl
   rw[hτ5]at hi7
   simp(disch:=first|omega|(simp only[zz];try omega;done)) only[↓reduceIte,go_sem,rfFirsts_L2,f3,f6,hτ5]
   refine effS_call (.inl ⟨rfl,_,u7,_,true,oneF none s,rfl,hi7,Nat.le_refl _,by omega,hd1,fun x hx=>htx x (List.mem_filter.1 (hs2.1.mem_iff.1 ((oneF_sub _ _).mem hx))).1,fun u8 h8 w8 r s8 hr hw8=>⟨zz0,?_⟩⟩)
   simp(disch:=first|omega|(simp only[zz];try omega;done)) only[↓reduceIte,go_sem]
   have:=firsts_eq hup hs2 hr
   exact hK _ _ _ (st7.trans0 s8) (by rw[←this];exact hw8)
end Go.Proofs.YtmjinnbdnpedcaaGreat
