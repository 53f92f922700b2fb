import Derived.Test.YtmjinnbdnpedcaaGreatCbO
import Derived.Test.YtmjinnbdnpedcaaGreatKcM
section Merged
namespace Go.Proofs.YtmjinnbdnpedcaaGreat
open Go Go.Ev Edict
def C_givenR(vs:List Value)(h:H)(K:Value→H→Prop):Prop:= ∃(u:U) (v w:Value) (p:List Clause) (fs:List Atom),vs=[.agg #[v],w]∧IsSl u h v p∧IsSl u h w fs∧Rep.wf p∧Rep.wf fs∧ ∀u' h',Step S0 u h u' h'→K (fV (gvF p fs)) h'
def G_rfGiven:Ctr:=fun f vs h K _=>(f=32∧C_data (vI wellW) vs h K)∨(f=33∧C_groundR vs h K)
theorem G_rfGiven_ok:GOk Tryz.prog G_rfGiven:=by
 rintro f vs h K KP (⟨rfl,hC⟩|⟨rfl,hC⟩)
 ·exact r4Well_ok hC
 ·exact rfGround_ok hC
theorem rfGiven_ok{vs:List Value}{h:H}{K:Value→H→Prop}{KP:List PanicEntry→H→Prop}(hC:C_givenR vs h K):HCX Tryz.prog 7 vs h K KP:=by
 obtain⟨u,v,w,p,fs,rfl,hl,hf,hwp,hwf,hK⟩:=hC
 obtain⟨la,lc,rfl,q1,q2⟩:=hl.sl
 obtain⟨fa,fc,rfl,q3,q4⟩:=hf.sl
 have hm:=mlen'
 refine rfGiven_H G_rfGiven G_rfGiven_ok _ _ ?_
 have s1:=Step.push0 S0 u h #[.slice la p.length lc] 24
 have s2:=Step.push0 S0 (ub u h.size 0) (h.push (.cells #[.slice la p.length lc] 24)) #[.int .i64 0,.int .i64 0,.int .i64 0] 34
 have B2:=Blk.new (u:=ub u h.size 0) (h:=h.push (.cells #[.slice la p.length lc] 24)) [.int .i64 0,.int .i64 0,.int .i64 0] 34
 have st2:=s1.trans0 s2
 obtain⟨u2,hu2⟩: ∃u2,u2=ub (ub u h.size 0) (h.size+1) 0:=⟨_,rfl⟩
 simp only[e_psz]at B2 st2
 rw[←hu2]at B2 st2
 simp(disch:=first|omega|(simp only[zz];try omega;done)) only[↓reduceIte,go_sem,rfGiven_S,rfGiven_E]
 refine effS_call (.inl ⟨rfl,u2,p,[.slice la p.length lc],rfl,by rw[rep_list];exact⟨_,rfl,hl.mono st2.ge⟩,hwp,fun u3 h3 s3=>⟨zz0,?_⟩⟩)
 have st3:=st2.trans0 s3
 have B3:=B2.step0 s3
 have b3l:=B3.1
 have out: ∀(a b c:Int) (u':U) (h':H),Step S0 u h u' h'→Blk u' h' (h.size+1) [.int .i64 0,.int .i64 0,.int .i64 0]→gvF p fs=(a,b,c)→K (fV (a,b,c)) (hsets h' (h.size+1) 0 [.int .i64 a,.int .i64 b,.int .i64 c])∧Blk u' (hsets h' (h.size+1) 0 [.int .i64 a,.int .i64 b,.int .i64 c]) (h.size+1) [.int .i64 a,.int .i64 b,.int .i64 c]:=fun a b c u' h' st B e=>by
  have sw:=B.stepSets (l:=[.int .i64 a,.int .i64 b,.int .i64 c]) rfl
  refine⟨?_,B.sets rfl⟩
  rw[←e]
  exact hK _ _ (st.own sw fun j e=>by have e:j=h.size+1:=e;omega)
 by_cases hw:wellW p=0
 ·by_cases hlen:4096<fs.length
  ·have hg:gvF p fs=(24,1,0):=by unfold gvF;rw[if_neg (by simp [hw]),if_pos hlen]
   obtain⟨k1,k2⟩:=out 24 1 0 u3 h3 st3 B3 hg
   simp(disch:=first|omega|(simp only[zz];try omega;done)) only[↓reduceIte,go_sem,vI,eq_true hw,eq_true (show(4096:Int)<fs.length by omega),B3.2.1,B3.2.2.1,k2.at,k2.2.1]
   exact k1
  ·simp(disch:=first|omega|(simp only[zz];try omega;done)) only[↓reduceIte,go_sem,vI,eq_true hw,eq_false (show¬(4096:Int)<fs.length by omega)]
   obtain⟨I,hI⟩: ∃I:Nat→Env→H→Prop,I=fun i σ h'=>σ 1= .slice fa fs.length fc∧σ 4= .pointer (some ⟨h.size+1,0,none⟩)∧σ 6= .int .i64 i∧i≤fs.length∧(∀a∈fs.take i,grB a=true)∧ ∃u',Step S0 u h u' h'∧Blk u' h' (h.size+1) [.int .i64 0,.int .i64 0,.int .i64 0]:=⟨_,rfl⟩
   refine wpS_loop I (fun i=>fs.length - i) 0 (by rw[hI];exact⟨by simp [upd],by simp [upd],by simp [upd],Nat.zero_le _,fun a ha=>by simp at ha,u3,st3,B3⟩) ?_
   intro i σ h' hy
   rw[hI]at hy
   obtain⟨e1,e4,e6,hi,hall,u',st,B⟩:=hy
   have bl:=B.1
   by_cases hlt:i<fs.length
   ·obtain⟨x,hs⟩: ∃x,fs[i]? =some x:=⟨fs[i],by simp [hlt]⟩
    obtain⟨pb,po,rfl,hpb,hpu,hpz,hpr⟩:=(hf.mono st.ge).row i x hs
    have hprs:=hpr
    rw[rep_atom]at hpr
    obtain⟨va,hpr,hh⟩:=hpr
    rw[hpr]at hprs
    simp only[sz_atom,hvs_3,List.cons.injEq,and_true]at hpr hpu hpz
    obtain⟨p0,p1,p2⟩:=hpr
    simp(disch:=first|omega|(simp only[zz];try omega;done)) only[↓reduceIte,go_sem,rfGiven_L1,e1,e6,hlt,p0,p1,p2]
    refine effS_call (.inr ⟨rfl,u',x,[str x.1,va,.int .i64 x.2.2],rfl,hprs,hwf.2 x (List.mem_of_getElem? hs),fun u4 h4 s4=>⟨zz0,?_⟩⟩)
    have st4:=st.trans0 s4
    have B4:=B.step0 s4
    have b4l:=B4.1
    cases hg:grB x with
    |true=>
     simp(disch:=first|omega|(simp only[zz];try omega;done)) only[↓reduceIte,go_sem,e6]
     refine⟨i+1,?_,by omega⟩
     rw[hI]
     refine⟨by simp [upd,e1],by simp [upd,e4],by simp [upd],hlt,fun a ha=> ?_,u4,st4,B4⟩
     rw[List.take_add_one,hs,Option.toList_some,List.mem_append,List.mem_singleton]at ha
     rcases ha with ha|rfl
     ·exact hall a ha
     ·exact hg
    |false=>
     have hgv:gvF p fs=(2,1,x.2.2):=by
      unfold gvF
      rw[if_neg (by simp [hw]),if_neg hlen,find_at (f:=fun a=> !grB a) hs (fun s hs=>by rw[hall s hs];rfl) (by rw[hg];rfl)]
     obtain⟨k1,k2⟩:=out 2 1 x.2.2 u4 h4 st4 B4 hgv
     obtain⟨pb',po',hpe,hpb',hpu',hpz',hpr'⟩:=(hf.mono st4.ge).row i x hs
     simp only[Option.some.injEq,Addr.mk.injEq,and_true]at hpe
     obtain⟨rfl,rfl⟩:=hpe
     rw[rep_atom]at hpr'
     obtain⟨va',hpr',-⟩:=hpr'
     simp only[sz_atom,hvs_3,List.cons.injEq,and_true]at hpr' hpu' hpz'
     simp(disch:=first|omega|(simp only[zz];try omega;done)) only[↓reduceIte,go_sem,e1,e4,e6,hlt,hpr'.2.2,B4.2.1,B4.2.2.1,k2.at,k2.2.1]
     exact k1
   ·obtain rfl:i=fs.length:=by omega
    rw[List.take_length]at hall
    have hgv:gvF p fs=(0,0,0):=by
     unfold gvF
     rw[if_neg (by simp [hw]),if_neg hlen,List.find?_eq_none.2 (fun a ha=>by rw[hall a ha];simp)]
    obtain⟨k1,k2⟩:=out 0 0 0 u' h' st B hgv
    simp(disch:=first|omega|(simp only[zz];try omega;done)) only[↓reduceIte,go_sem,rfGiven_L1,e1,e4,e6,B.2.1,B.2.2.1,k2.at,k2.2.1]
    exact k1
 ·have hg:gvF p fs=(wellW p,0,0):=by unfold gvF;rw[if_pos hw]
  obtain⟨k1,k2⟩:=out (wellW p) 0 0 u3 h3 st3 B3 hg
  simp(disch:=first|omega|(simp only[zz];try omega;done)) only[↓reduceIte,go_sem,vI,eq_false hw,B3.2.1,B3.2.2.1,k2.at,k2.2.1]
  exact k1
end Go.Proofs.YtmjinnbdnpedcaaGreat
end Merged
section Merged
namespace Edict
def endF(p:List Clause)(fs:List Atom)(ps:List Pred)(cs:List Const):Core×Flt:=
 ((ps,cs,(rulesF ps cs ([],[]) 0 p).1,fs.foldl (fun l a=>factT l (rowF ps cs a)) (rulesF ps cs ([],[]) 0 p).2),0,0,0)
theorem takeA_cons(cs:List Const)(a:Atom)(l:List Atom):takeA cs (a::l)=match valF cs a.2.1 with
  |(cs,none)=>takeA cs l
  |(cs,some t)=>(cs,some t):=rfl
end Edict
namespace Go.Proofs.YtmjinnbdnpedcaaGreat
open Go Go.Ev Edict
theorem nil_core{u:U}{h:H}:Rep.rep u h core0 [.slice none 0 0,.slice none 0 0,.slice none 0 0,.slice none 0 0]:=rep_core (.nil _ _) (.nil _ _) (.nil _ _) (.nil _ _)
theorem err_ok{K:Value→H→Prop}{u0:U}{h0:H}{p:List Clause}{fs:List Atom}{la fa:Option Addr}{lc fc p2 p4 p5 b k:Nat}{σ:Env}{u:U}{h:H}{c x o:Int}(X:BCx u0 h0 p fs la fa lc fc p2 p4 p5 b k σ u h)(hb:buildF p fs=(core0,c,x,o))(hK:Kb u0 h0 p fs K):
  let h1:=hsets h p4 0 [.slice none 0 0,.slice none 0 0,.slice none 0 0,.slice none 0 0]
  let h2:=hsets h1 p5 0 [.int .i64 c,.int .i64 x,.int .i64 o]
  p5<h1.size∧hsz h1 p5=3∧hfr h1 p5=(0,0)∧hsz h2 p4=4∧hsz h2 p5=3∧(∀i,i<4→Go.Ev.hv h2 p4 i= .slice none 0 0)∧Go.Ev.hv h2 p5 0= .int .i64 c∧Go.Ev.hv h2 p5 1= .int .i64 x∧Go.Ev.hv h2 p5 2= .int .i64 o∧
   h1.size=h.size∧h2.size=h.size∧ ∀u3 h3,Step S0 u h2 u3 h3→K (.tuple #[.agg #[.slice none 0 0,.slice none 0 0,.slice none 0 0,.slice none 0 0],.agg #[.int .i64 c,.int .i64 x,.int .i64 o]]) h3:=by
 intro h1 h2
 have F:=X.F
 have C:=X.C
 have lt:=X.lt
 have sw1:Step (fun j=>j=p4) u h u h1:=Step.sets u h _ rfl (by rw[C.2.2.2.1];exact Nat.le_refl _) (by rw[C.2.1];exact Nat.le_refl _)
 have F1:=F.step sw1 (fun e=>lt.2.2.2.2.2.2.2.2.1 (by have e:p5=p4:=e;exact e.symm))
 have C1:=C.sets (l:=[.slice none 0 0,.slice none 0 0,.slice none 0 0,.slice none 0 0]) rfl
 have sw2:Step (fun j=>j=p5) u h1 u h2:=Step.sets u _ _ rfl (by rw[F1.2.2.2.1];exact Nat.le_refl _) (by rw[F1.2.1];exact Nat.le_refl _)
 have C2:=C1.step sw2 (fun e=>lt.2.2.2.2.2.2.2.2.1 (by have e:p4=p5:=e;exact e))
 have F2:=F1.sets (l:=[.int .i64 c,.int .i64 x,.int .i64 o]) rfl
 have this: ∀u3 h3,Step S0 u h2 u3 h3→K (.tuple #[.agg #[.slice none 0 0,.slice none 0 0,.slice none 0 0,.slice none 0 0],.agg #[.int .i64 c,.int .i64 x,.int .i64 o]]) h3:=fun u3 h3 s3=>by
  have:=hK u3 h3 [.slice none 0 0,.slice none 0 0,.slice none 0 0,.slice none 0 0] (((X.st.trans sw1 (fun j hj e=>by have e:j=p4:=e;omega)).trans sw2 (fun j hj e=>by have e:j=p5:=e;omega)).trans0 s3) (by rw[hb];exact nil_core)
  rw[hb]at this
  exact this
 refine⟨F1.1,F1.2.1,F1.2.2.1,C2.2.1,F2.2.1,fun i hi=> ?_,F2.at 0 (by simp),F2.at 1 (by simp),F2.at 2 (by simp),hsets_size _ _ _ _,(hsets_size _ _ _ _).trans (hsets_size _ _ _ _),this⟩
 have hc:=C2.at i hi
 rw[hc]
 rcases i with _|_|_|_|i
 ·rfl
 ·rfl
 ·rfl
 ·rfl
 ·omega
theorem bT8_ok {K:Value→H→Prop} {KP:List PanicEntry→H→Prop} {u0:U} {h0:H} {p:List Clause} {fs:List Atom} {la fa:Option Addr} {lc fc p2 p4 p5 b k:Nat} {σ:Env} {u:U} {h:H} {mp mc:Nat} {vP vC vR vF:Value} {ps:List Pred} {cs:List Const}
  (X:BCx u0 h0 p fs la fa lc fc p2 p4 p5 b k σ u h) (hl:IsSl u0 h0 (.slice la p.length lc) p) (hlf:IsSl u0 h0 (.slice fa fs.length fc) fs) (B:BSt k u h b mp mc vP vC vR vF ps cs [] [])
  (hps:ps.length≤131072) (hcs:cs.length≤65536) (hpl:p.length≤512) (hpc: ∀c∈p,clauseW c=0) (hpw: ∀c∈p,∀t∈termsC c,Rep.wf (cnst t)) (h8: ∀a∈fs,a.2.1.length≤8∧ ∀t∈a.2.1,Rep.wf (cnst t)) (hfl:fs.length≤4096)
  (hb:buildF p fs=endF p fs ps cs) (hK:Kb u0 h0 p fs K):wpS G_crBuild bT8 (retQ crBuild_E (callK K KP)) σ h:=by
 rw[bT8_cut]
 simp(disch:=first|omega|(simp only[zz];try omega;done)) only[go_sem,bT8,bT7,bT6,bT5,bT4,bT3,bT2,sS,sF,crBuild_S]
 refine effS_mkmg ksK encK u fun u1 h1 s1 m1=>⟨zz0,?_⟩
 rw[show(fun _=>none:List Int→Option Int)=posL (([]:List Row).map key9)from by funext s;simp [posL]]at m1
 simp(disch:=first|omega|(simp only[zz];try omega;done)) only[↓reduceIte,go_sem]
 have hk:=X.lt.2.2.2.2.2.2.2.2.2.2
 exact bT9_ok (X.step s1 (fun _ h=>h.elim) _ (by simp [upd]) (by simp [upd]) (by simp [upd]) (by simp [upd]) (by simp [upd])) (by simp [upd]) hl hlf (B.step s1 (fun _ _ h=>h)) m1 (fun hj=>by have:=B.lt hj;omega) hk hps hcs hpl hpc hpw h8 hfl hb hK
theorem bT7_ok {K:Value→H→Prop} {KP:List PanicEntry→H→Prop} {u0:U} {h0:H} {p:List Clause} {fs:List Atom} {la fa:Option Addr} {lc fc p2 p4 p5 b k:Nat} {σ:Env} {u:U} {h:H} {mp mc:Nat} {vP vC vR vF:Value} {ps:List Pred} {cs:List Const}
  (X:BCx u0 h0 p fs la fa lc fc p2 p4 p5 b k σ u h) (hl:IsSl u0 h0 (.slice la p.length lc) p) (hlf:IsSl u0 h0 (.slice fa fs.length fc) fs) (B:BSt k u h b mp mc vP vC vR vF ps cs [] [])
  (hps:ps.length≤131072) (hcs:cs.length≤65536) (hpl:p.length≤512) (hpc: ∀c∈p,clauseW c=0) (hpw: ∀c∈p,∀t∈termsC c,Rep.wf (cnst t)) (h8: ∀a∈fs,a.2.1.length≤8∧ ∀t∈a.2.1,Rep.wf (cnst t)) (hfl:fs.length≤4096)
  (hb:buildF p fs=match takeA cs fs with
   |(_,some t)=>(core0,6,1,t.2.2.2)
   |(cs',none)=>endF p fs ps cs') (hK:Kb u0 h0 p fs K):wpS G_crBuild bT7 (retQ crBuild_E (callK K KP)) σ h:=by
 rw[bT7_cut]
 simp(disch:=first|omega|(simp only[zz];try omega;done)) only[↓reduceIte,go_sem,bT7,bT6,bT5,bT4,bT3,bT2,sS,sF,crBuild_S,X.e1]
 obtain⟨I,hI⟩: ∃I:Nat→Env→H→Prop,I=fun i σ' h'=>σ' 73= .slice fa fs.length fc∧σ' 74= .int .i64 fs.length∧σ' 75= .int .i64 i∧i≤fs.length∧
  ∃(u':U) (vi:Value) (ci:List Const),BCx u0 h0 p fs la fa lc fc p2 p4 p5 b k σ' u' h'∧BSt k u' h' b mp mc vP vi vR vF ps ci [] []∧ci.length≤65536∧takeA cs fs=takeA ci (fs.drop i):=⟨_,rfl⟩
 refine wpS_loop I (fun i=>fs.length - i) 0 (by
  rw[hI]
  exact⟨by simp [upd],by simp [upd],by simp [upd],Nat.zero_le _,u,vC,cs,X.step (S:=S0) (.refl _ _ _) (fun _ h=>h.elim) _ (by simp [upd]) (by simp [upd]) (by simp [upd]) (by simp [upd]) (by simp [upd]),B,hcs,rfl⟩) ?_
 clear B X hcs
 intro i σ h' hy
 rw[hI]at hy
 obtain⟨e73,e74,e75,hi,u',vi,ci,X,B,hcs,heq⟩:=hy
 by_cases hlt:i<fs.length
 ·obtain⟨x,hs⟩: ∃x,fs[i]? =some x:=⟨fs[i],by simp [hlt]⟩
  have hdr:fs.drop i=x::fs.drop (i+1):=by
   obtain⟨hi',rfl⟩:=List.getElem?_eq_some_iff.1 hs
   exact List.drop_eq_getElem_cons hi'
  rw[hdr,takeA_cons]at heq
  have hx:=h8 x (List.mem_of_getElem? hs)
  obtain⟨pb,po,rfl,hpb,hpu,hpz,hpr⟩:=(hlf.mono X.st.ge).row i x hs
  rw[rep_atom]at hpr
  obtain⟨pv,hpr,hpv⟩:=hpr
  obtain⟨pva,pvc,rfl,r1,r2⟩:=hpv.sl
  simp only[sz_atom,hvs_3,List.cons.injEq,and_true]at hpr hpu hpz
  obtain⟨q0,q1,q2⟩:=hpr
  have sp:=Step.push0 S0 u' h' #[str x.1,.slice pva x.2.1.length pvc,.int .i64 x.2.2] 48
  have X1:=X.step sp (fun _ h=>h.elim) σ rfl rfl rfl rfl rfl
  simp(disch:=first|omega|(simp only[zz];try omega;done)) only[↓reduceIte,go_sem,crBuild_L2,X.e8,e73,e74,e75,hlt,q0,q1,q2]
  refine effS_call (gb_values ⟨k,ub u' h'.size 0,b,mp,mc,_,vP,vi,vR,vF,x.2.1,ps,ci,[],[],rfl,hpv.mono sp.ge,B.step sp (fun _ _ h=>h),hcs,X1.lt.2.2.2.2.2.2.2.2.2.2,hx.2,fun u3 h3 vj s3 B3 b3 l3=>⟨zz0,?_⟩⟩)
  have X3:=X1.step s3 (fun j hj=>B.ge hj) σ rfl rfl rfl rfl rfl
  have sq:=Step.push0 S0 u3 h3 (Term.enc ((valF ci x.2.1).2.getD term0)).toArray 56
  have B4:=B3.step sq (fun _ _ h=>h)
  have X4:=X3.step sq (fun _ h=>h.elim) σ rfl rfl rfl rfl rfl
  generalize hvr:valF ci x.2.1=r at heq B3 B4 l3 sq X4 ⊢
  obtain⟨cj,ot⟩:=r
  cases ot with
  |none=>
   simp only[Option.getD_none,Option.isSome_none,Term.enc,term0]at heq sq X4 B4 l3 ⊢
   simp(disch:=first|omega|(simp only[zz];try omega;done)) only[↓reduceIte,go_sem,e75]
   refine⟨i+1,?_,by omega⟩
   rw[hI]
   exact⟨by simp [upd,e73],by simp [upd,e74],by simp [upd],hlt,_,vj,cj,X4.step (S:=S0) (.refl _ _ _) (fun _ h=>h.elim) _ (by simp [upd]) (by simp [upd]) (by simp [upd]) (by simp [upd]) (by simp [upd]),B4,l3,heq⟩
  |some t=>
   simp only[Option.getD_some,Option.isSome_some,Term.enc]at heq sq X4 B4 l3 ⊢
   rw[heq]at hb
   simp only at hb
   have E:=err_ok X3 hb hK
   have C3:=X3.C
   have F3:=X3.F
   have hc3:=C3.1
   have hf3:=F3.1
   simp(disch:=first|omega|(simp only[zz];try omega;done)) only[↓reduceIte,go_sem,X.e4,X.e5,C3.2.1,C3.2.2.1]
   generalize hXe:hsets h3 p4 0 [.slice none 0 0,.slice none 0 0,.slice none 0 0,.slice none 0 0]=hX at E ⊢
   obtain⟨y1,y2,y3,y4,y5,y6,y7,y8,y9,y10,y11,y12⟩:=E
   have y60:=y6 0 (by omega)
   have y61:=y6 1 (by omega)
   have y62:=y6 2 (by omega)
   have y63:=y6 3 (by omega)
   simp(disch:=first|omega|(simp only[zz];try omega;done)) only[↓reduceIte,go_sem,X.e4,X.e5,crBuild_E,y3,y4,y5,y60,y61,y62,y63,y7,y8,y9]
   exact y12 _ _ (Step.push0 S0 _ _ _ _)
 ·obtain rfl:i=fs.length:=by omega
  rw[List.drop_length]at heq
  have heq:takeA cs fs=(ci,none):=heq
  rw[heq]at hb
  simp only at hb
  simp(disch:=first|omega|(simp only[zz];try omega;done)) only[↓reduceIte,go_sem,crBuild_L2,e74,e75]
  exact bT8_ok (X.step (S:=S0) (.refl _ _ _) (fun _ h=>h.elim) _ (by simp [upd]) (by simp [upd]) (by simp [upd]) (by simp [upd]) (by simp [upd])) hl hlf B hps hcs hpl hpc hpw h8 hfl hb hK
end Go.Proofs.YtmjinnbdnpedcaaGreat
end Merged
