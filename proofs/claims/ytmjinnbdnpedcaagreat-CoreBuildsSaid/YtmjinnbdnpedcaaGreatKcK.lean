/- core: form. -/
import Derived.Test.YtmjinnbdnpedcaaGreatKcJ
namespace Edict
open Go.Ev
theorem word_len{f:Int→Bool}{s:List UInt8}(h:wordB f s=true):s.length≤64:=by
 unfold wordB at h
 cases s with
 |nil=>simp
 |cons b r=>simp only[Bool.and_eq_true,decide_eq_true_eq]at h;simp only[List.length_cons];exact h.1
theorem nameB_len{s:List UInt8}(h:nameB s=true):s.length≤64:=by
 unfold nameB at h
 rw[Bool.and_eq_true]at h
 exact word_len h.2
theorem termW_bulk{t:Term}(h:termW t=0):Rep.bulk t≤260:=by
 have hb:Rep.bulk t=1+(1+(t.2.2.1.length+1+1)):=rfl
 have hl:t.2.2.1.length≤255:=by
  unfold termW at h
  split at h
  ·split at h
   ·rename_i hc;exact Nat.le_trans (word_len hc.2) (by decide)
   ·cases h
  ·unfold constW at h
   split at h
   ·rename_i hv
    unfold validB at hv
    split at hv
    ·simp only[decide_eq_true_eq]at hv;rw[hv];simp
    ·split at hv
     ·rw[Bool.and_eq_true]at hv;exact Nat.le_trans (nameB_len hv.2) (by decide)
     ·split at hv
      ·rw[Bool.and_eq_true,decide_eq_true_eq,decide_eq_true_eq]at hv;exact hv.2
      ·cases hv
   ·cases h
 omega
theorem firstW_mem{α:Type}{f:α→Int}: ∀{l:List α},firstW f l=0→ ∀x∈l,f x=0
 |[],_,x,h=>by simp at h
 |y::l,hf,x,h=>by
  rw[firstW]at hf
  split at hf
  ·rename_i e
   rcases List.mem_cons.1 h with rfl|h
   ·exact e
   ·exact firstW_mem hf x h
  ·rename_i e;exact absurd hf e
theorem bulkL_le{α:Type} [Rep α]{n:Nat}: ∀{l:List α},(∀x∈l,Rep.bulk x≤n)→bulkL l≤l.length*n+1
 |[],_=>by simp [bulkL]
 |x::l,h=>by
  have h1:=bulkL_le (l:=l) fun y hy=>h y (List.mem_cons_of_mem _ hy)
  have h2:=h x (List.mem_cons_self ..)
  simp only[bulkL,List.length_cons,Nat.succ_mul];omega
theorem atomW_bulk{a:Atom}(h:atomW a=0):Rep.bulk a≤2200∧a.2.1.length≤8:=by
 have hb:Rep.bulk a=a.1.length+1+(bulkL a.2.1+1):=rfl
 unfold atomW at h
 split at h
 ·rename_i hn
  split at h
  ·cases h
  ·rename_i h8
   have h1:=nameB_len hn
   have h2:=bulkL_le (n:=260) fun t ht=>termW_bulk (firstW_mem h t ht)
   omega
 ·cases h
theorem litW_bulk{x:Literal}(h:litW x=0):Rep.bulk x≤3000:=by
 have hb:Rep.bulk x=1+((x.2.1.1.length+1+(bulkL x.2.1.2.1+1))+(1+(Rep.bulk x.2.2.2.1+(Rep.bulk x.2.2.2.2.1+1)))):=rfl
 have ht: ∀t:Term,Rep.bulk t=1+(1+(t.2.2.1.length+1+1)):=fun _=>rfl
 unfold litW at h
 split at h
 ·split at h
  ·rename_i hz
   obtain⟨-,h1,h2⟩:=hz
   have ha:=(atomW_bulk h).1
   have hba:Rep.bulk x.2.1=x.2.1.1.length+1+(bulkL x.2.1.2.1+1):=rfl
   unfold zeroB at h1 h2
   simp only[Bool.and_eq_true,decide_eq_true_eq]at h1 h2
   rw[hb,ht,ht,h1.2,h2.2]
   simp only[List.length_nil];omega
  ·cases h
 ·split at h
  ·unfold testW at h
   split at h
   ·cases h
   ·rename_i hz
    have e1:x.2.1.1=[]:=Classical.byContradiction fun hc=>hz (.inr (.inr (.inl hc)))
    have e2:x.2.1.2.1=[]:=Classical.byContradiction fun hc=>hz (.inr (.inr (.inr hc)))
    split at h
    ·rename_i hl
     have h1:=termW_bulk hl
     have h2:=termW_bulk h
     rw[hb,e1,e2]
     simp only[List.length_nil,bulkL];omega
    ·rename_i hl;exact absurd h hl
  ·cases h
theorem clauseW_bulk{c:Clause}(h:clauseW c=0):Rep.bulk c≤1048576:=by
 have hb:Rep.bulk c=Rep.bulk c.1+bulkL c.2:=rfl
 unfold clauseW at h
 split at h
 ·rename_i ha
  split at h
  ·cases h
  ·have h1:=(atomW_bulk ha).1
   have h2:=bulkL_le (n:=3000) fun x hx=>litW_bulk (firstW_mem h x hx)
   omega
 ·rename_i ha;exact absurd h ha
theorem wellW_mem{p:List Clause}(h:wellW p=0):(∀c∈p,clauseW c=0)∧p.length≤512:=by
 unfold wellW at h
 split at h
 ·cases h
 ·exact⟨firstW_mem h,by omega⟩
theorem clash_code: ∀(l:List Atom) (ps:List Pred),(clashF ps l).2.1=0∨(clashF ps l).2.1=30∨(clashF ps l).2.1=31
 |[],_=> .inl rfl
 |a::l,ps=>by
  rw[clashF_cons]
  split
  ·split
   ·exact clash_code l ps
   ·exact .inr (.inl rfl)
  ·split
   ·exact .inr (.inr rfl)
   ·exact clash_code l _
theorem clash_app: ∀(l m:List Atom) (ps:List Pred),clashF ps (l++m)=if(clashF ps l).2.1=0 then clashF (clashF ps l).1 m else clashF ps l
 |[],_,_=>by rw[List.nil_append];exact(if_pos rfl).symm
 |a::l,m,ps=>by
  rw[List.cons_append,clashF_cons,clashF_cons]
  cases arOf ps a.1 with
  |some n=>
   simp only
   by_cases h:n=a.2.1.length
   ·rw[if_pos h,if_pos h];exact clash_app l m ps
   ·rw[if_neg h,if_neg h,if_neg (by simp)]
  |none=>
   simp only
   by_cases h:128≤ps.length
   ·rw[if_pos h,if_pos h,if_neg (by simp)]
   ·rw[if_neg h,if_neg h];exact clash_app l m _
theorem form_eq{p:List Clause}{fs:List Atom}(hw:wellW p=0)(h4:fs.length≤4096)(hg: ∀a∈fs,grB a=true):
  formF p fs=if(clashF [] (p.flatMap atomsC)).2.1≠0 then((clashF [] (p.flatMap atomsC)).2.1,0,(clashF [] (p.flatMap atomsC)).2.2)
   else if(clashF (clashF [] (p.flatMap atomsC)).1 fs).2.1≠0 then((clashF (clashF [] (p.flatMap atomsC)).1 fs).2.1,1,(clashF (clashF [] (p.flatMap atomsC)).1 fs).2.2)else(0,0,0):=by
 have hf:(fs.find? fun a=> !grB a)=none:=by rw[List.find?_eq_none];intro a ha;simp [hg a ha]
 unfold formF
 rw[if_neg (by simp [hw]),if_neg (by omega),hf]
 simp only
 have hc:=clash_code (p.flatMap atomsC) []
 generalize clashF [] (p.flatMap atomsC)=r at hc ⊢
 obtain⟨ps,n,o⟩:=r
 simp only at hc ⊢
 rcases hc with rfl|rfl|rfl
 ·have hd:=clash_code fs ps
  simp only
  generalize clashF ps fs=r at hd ⊢
  obtain⟨qs,m,q⟩:=r
  simp only at hd ⊢
  rcases hd with rfl|rfl|rfl<;>rfl
 ·rfl
 ·rfl
end Edict
namespace Go.Ev
open Go Rep
theorem own_one{α:Type} [Rep α]{k:Nat}{u:U}{h:H}{a:α}{cs:List Value}(e:TypeId)(hk:k≤h.size)(hr:rep u h a cs):Own k (ub u h.size (sz α)) (h.push (.cells cs.toArray e)) (.slice (some ⟨h.size,0,none⟩) 1 1) [a]:=by
 have hl:=Rep.len hr
 have:=Own.made (k:=k) u h hk e [a] cs (by simp [hl]) (by simp only[List.length_singleton];decide) (fun i y hy=>by
  cases i with
  |zero=>
   simp only[List.getElem?_cons_zero,Option.some.injEq]at hy
   subst hy
   rw[Nat.zero_mul,List.drop_zero,List.take_of_length_le (by omega)];exact hr
  |succ i=>simp at hy)
 simpa using this
end Go.Ev
namespace Go.Proofs.YtmjinnbdnpedcaaGreat
open Go Go.Ev Edict
def C_form(vs:List Value)(h:H)(K:Value→H→Prop):Prop:= ∃(u:U) (v w:Value) (p:List Clause) (fs:List Atom),vs=[.agg #[v],w]∧IsSl u h v p∧IsSl u h w fs∧Rep.wf p∧Rep.wf fs∧PowT u h∧ ∀u' h',Step S0 u h u' h'→K (fV (formF p fs)) h'
def G_crForm:Ctr:=fun f vs h K _=>(f=45∧C_data (vI wellW) vs h K)∨(f=46∧C_ground vs h K)∨(f=23∧C_lits atomsL vs h K)∨(f=47∧C_clash vs h K)
theorem G_crForm_ok:GOk Tryz.prog G_crForm:=by
 rintro f vs h K KP (⟨rfl,hC⟩|⟨rfl,hC⟩|⟨rfl,hC⟩|⟨rfl,hC⟩)
 ·exact prWell_ok hC
 ·exact crGround_ok hC
 ·exact crAtoms_ok hC
 ·exact crClash_ok hC
theorem crForm_ok{vs:List Value}{h:H}{K:Value→H→Prop}{KP:List PanicEntry→H→Prop}(hC:C_form vs h K):HCX Tryz.prog 19 vs h K KP:=by
 obtain⟨u,v,w,p,fs,rfl,hl,hlf,hwp,hwf,hP,hK⟩:=hC
 obtain⟨la,lc,rfl,q1,q2⟩:=hl.sl
 obtain⟨fa,fc,rfl,q3,q4⟩:=hlf.sl
 have hm:=mlen'
 refine crForm_H G_crForm G_crForm_ok _ _ ?_
 simp(disch:=first|omega|(simp only[zz];try omega;done)) only[↓reduceIte,go_sem,crForm_S,crForm_E]
 have sA:=Step.push0 S0 u h #[.slice la p.length lc] 24
 have A0:Blk (ub u h.size 0) (h.push (.cells #[.slice la p.length lc] 24)) h.size [.slice la p.length lc]:=(Blk.mk (by simp only[e_psz];omega) (by simp(disch:=first|omega|(simp only[zz];try omega;done)) only[go_sem]) (by simp(disch:=first|omega|(simp only[zz];try omega;done)) only[go_sem]) (by repeat (first|(refine ub_at ?_;simp only[];done)|apply ub_zero)) (by simp(disch:=first|omega|(simp only[zz];try omega;done)) only[go_sem]))
 have sB:=Step.push0 S0 (ub u h.size 0) (h.push (.cells #[.slice la p.length lc] 24)) #[.int .i64 0,.int .i64 0,.int .i64 0] 34
 simp only[e_psz]at sB
 have F0:Blk (ub (ub u h.size 0) (h.size+1) 0) ((h.push (.cells #[.slice la p.length lc] 24)).push (.cells #[.int .i64 0,.int .i64 0,.int .i64 0] 34)) (h.size+1) [.int .i64 0,.int .i64 0,.int .i64 0]:=(Blk.mk (by simp only[e_psz];omega) (by simp(disch:=first|omega|(simp only[zz];try omega;done)) only[go_sem]) (by simp(disch:=first|omega|(simp only[zz];try omega;done)) only[go_sem]) (by repeat (first|(refine ub_at ?_;simp only[];done)|apply ub_zero)) (by simp(disch:=first|omega|(simp only[zz];try omega;done)) only[go_sem]))
 have A1:=A0.step0 sB
 have st:=sA.trans0 sB
 refine effS_call (.inl ⟨rfl,_,p,[.slice la p.length lc],rfl,⟨_,rfl,hl.mono st.ge⟩,hwp,fun u1 h1 s1=>⟨zz0,?_⟩⟩)
 have A2:=A1.step0 s1
 have F2:=F0.step0 s1
 have st2:=st.trans0 s1
 simp only[vI]
 -- a fault is answered
 have fin: ∀(u':U) (h':H) (c x o:Int),Step S0 u h u' h'→Blk u' h' (h.size+1) [.int .i64 0,.int .i64 0,.int .i64 0]→formF p fs=(c,x,o)→
   3≤hsz (hsets h' (h.size+1) 0 [.int .i64 c,.int .i64 x,.int .i64 o]) (h.size+1)∧
   K (.agg #[Go.Ev.hv (hsets h' (h.size+1) 0 [.int .i64 c,.int .i64 x,.int .i64 o]) (h.size+1) 0,Go.Ev.hv (hsets h' (h.size+1) 0 [.int .i64 c,.int .i64 x,.int .i64 o]) (h.size+1) 1,Go.Ev.hv (hsets h' (h.size+1) 0 [.int .i64 c,.int .i64 x,.int .i64 o]) (h.size+1) 2])
    (hsets h' (h.size+1) 0 [.int .i64 c,.int .i64 x,.int .i64 o]):=fun u' h' c x o s F hf=>by
  obtain⟨z0,z1,z2,z3⟩:=set3 (v0:= .int .i64 c) (v1:= .int .i64 x) (v2:= .int .i64 o) F.2.1
  rw[z0,z1,z2,z3]
  have:=hK _ _ (Step.setsR (b:=h.size+1) (o:=0) (l:=[.int .i64 c,.int .i64 x,.int .i64 o]) s (.inl (Nat.le_succ _)) (by rw[F.2.2.2.1];exact Nat.le_refl _) (by rw[F.2.1];simp))
  rw[hf]at this
  exact⟨Nat.le_refl _,this⟩
 have hx2:=A2.1
 by_cases hw0:wellW p=0
 ·have⟨hcw,hpl⟩:=wellW_mem hw0
  simp(disch:=first|omega|(simp only[zz];try omega;done)) only[↓reduceIte,go_sem,eq_true hw0]
  by_cases h4:4096<fs.length
  ·have hf:formF p fs=(24,1,0):=by unfold formF;rw[if_neg (by simp [hw0]),if_pos h4]
   simp(disch:=first|omega|(simp only[zz];try omega;done)) only[go_sem,eq_true (show(4096:Int)<fs.length by omega),F2.2.1,F2.2.2.1]
   exact fin _ _ _ _ _ st2 F2 hf
  ·simp(disch:=first|omega|(simp only[zz];try omega;done)) only[go_sem,eq_false (show¬(4096:Int)<fs.length by omega)]
   refine effS_call (.inr (.inl ⟨rfl,u1,_,fs,rfl,hlf.mono st2.ge,hwf,hP.mono st2.ge,fun u3 h3 s3 hg=>⟨zz0,?_⟩,fun u3 h3 i a s3 hia hga htk=>⟨zz0,?_⟩⟩))
   ·have A3:=A2.step0 s3
    have F3:=F2.step0 s3
    have st3:=st2.trans0 s3
    have hx3:=A3.1
    simp(disch:=first|omega|(simp only[zz];try omega;done)) only[↓reduceIte,go_sem]
    refine effS_mkm u3 fun u4 h4' s4 m4=>⟨zz0,?_⟩
    rw[show(fun _=>none:List UInt8→Option Int)=arOf []from rfl]at m4
    have A4:=A3.step0 s4
    have F4:=F3.step0 s4
    have st4:=st3.trans0 s4
    have hx4:=A4.1
    simp(disch:=first|omega|(simp only[zz];try omega;done)) only[↓reduceIte,go_sem,A4.at,A4.2.1]
    obtain⟨mb,hmb⟩: ∃mb,mb=h3.size:=⟨_,rfl⟩
    have hmb1:h.size+1<mb:=by rw[hmb];exact F3.1
    rw[←hmb]at m4 ⊢
    obtain⟨I,hI⟩: ∃I:Nat→Env→H→Prop,I=fun i σ h'=>σ 1= .slice fa fs.length fc∧σ 4= .pointer (some ⟨h.size+1,0,none⟩)∧σ 7= .map (some mb)∧σ 36= .slice la p.length lc∧σ 37= .int .i64 p.length∧σ 38= .int .i64 i∧i≤p.length∧
     ∃(u':U) (pi:List Pred),Step S0 u h u' h'∧Blk u' h' (h.size+1) [.int .i64 0,.int .i64 0,.int .i64 0]∧MapB h' mb (arOf pi) pi.length∧pi.length≤128∧clashF [] (p.flatMap atomsC)=clashF pi ((p.drop i).flatMap atomsC):=⟨_,rfl⟩
    refine wpS_loop I (fun i=>p.length - i) 0 (by
     rw[hI]
     exact⟨by simp [upd],by simp [upd],by simp [upd],by simp [upd],by simp [upd],by simp [upd],Nat.zero_le _,u4,[],st4,F4,m4,Nat.zero_le _,rfl⟩) ?_
    clear A4 F4 st4 hx4 A3 F3 st3 hx3 m4 s4 s3 A2 F2 st2 hx2 s1 hmb F0 A1 A0 sA sB st
    intro i σ h' hy
    rw[hI]at hy
    obtain⟨e1,e4,e7,e36,e37,e38,hi,u',pi,st,F,hM,hpi,heq⟩:=hy
    have hFl:=F.1
    by_cases hlt:i<p.length
    ·obtain⟨c,hs⟩: ∃c,p[i]? =some c:=⟨p[i],by simp [hlt]⟩
     have hdr:p.drop i=c::p.drop (i+1):=by
      obtain⟨hi',rfl⟩:=List.getElem?_eq_some_iff.1 hs
      exact List.drop_eq_getElem_cons hi'
     rw[hdr,List.flatMap_cons,clash_app]at heq
     have hcb:=clauseW_bulk (hcw c (List.mem_of_getElem? hs))
     obtain⟨hb1,hb2,hb3⟩:=clause_bulkT hcb
     obtain⟨pb,po,rfl,hpb,hpu,hpz,hpr⟩:=(hl.mono st.ge).row i c hs
     rw[rep_clause]at hpr
     obtain⟨va,vb,hpr,hh,hb⟩:=hpr
     obtain⟨ha,hc,rfl,-,-⟩:=hh.sl
     obtain⟨ba,bc,rfl,-,-⟩:=hb.sl
     simp only[sz_clause,hvs_4,List.cons.injEq,and_true]at hpr hpu hpz
     obtain⟨p0,p1,p2,p3⟩:=hpr
     have sp:=Step.push0 S0 u' h' #[str c.1.1,.slice ha c.1.2.1.length hc,.int .i64 c.1.2.2,.slice ba c.2.length bc] 51
     have Y:Blk (ub u' h'.size 0) (h'.push (.cells #[str c.1.1,.slice ha c.1.2.1.length hc,.int .i64 c.1.2.2,.slice ba c.2.length bc] 51)) h'.size [str c.1.1,.slice ha c.1.2.1.length hc,.int .i64 c.1.2.2,.slice ba c.2.length bc]:=(Blk.mk (by simp only[e_psz];omega) (by simp(disch:=first|omega|(simp only[zz];try omega;done)) only[go_sem]) (by simp(disch:=first|omega|(simp only[zz];try omega;done)) only[go_sem]) (by repeat (first|(refine ub_at ?_;simp only[];done)|apply ub_zero)) (by simp(disch:=first|omega|(simp only[zz];try omega;done)) only[go_sem]))
     have Fp:=F.step0 sp
     have Mp:=hM.step sp (fun h=>h)
     have stp:=st.trans0 sp
     have hhp:=hh.mono sp.ge
     have hbp:=hb.mono sp.ge
     have hmbl:=hM.lt
     simp(disch:=first|omega|(simp only[zz];try omega;done)) only[↓reduceIte,go_sem,crForm_L1,e36,e37,e38,hlt,p0,p1,p2,p3]
     obtain⟨hp,hhp0⟩: ∃hp,hp=h'.push (.cells #[str c.1.1,.slice ha c.1.2.1.length hc,.int .i64 c.1.2.2,.slice ba c.2.length bc] 51):=⟨_,rfl⟩
     have hhs:hp.size=h'.size+1:=by rw[hhp0];simp only[e_psz]
     rw[←hhp0]at Y Fp Mp stp hhp hbp sp ⊢
     clear hhp0
     obtain⟨r,hr⟩: ∃r,r=clashF pi (atomsC c):=⟨_,rfl⟩
     have hyl:=Y.1
     have hal:(atomsL c.2).length≤1048576:=by
      unfold atomsL
      rw[List.length_map]
      have:=List.length_filter_le isA c.2
      have:=bulkL_pos c.2
      omega
     have hclash: ∀(u6:U) (h6:H) (w:Value) (K':Value→H→Prop),Step S0 (ub u' h'.size 0) hp u6 h6→IsSl u6 h6 w (atomsC c)→(∀u8 h8,Step (fun j=>j=mb) u6 h6 u8 h8→MapB h8 mb (arOf r.1) r.1.length→r.1.length≤128→K' (.tuple #[.int .i64 r.2.1,.int .i64 r.2.2]) h8)→C_clash [.map (some mb),w] h6 K':=fun u6 h6 w K' s6 hw6 hK'=>
      ⟨u6,mb,w,pi,atomsC c,rfl,Mp.step s6 (fun h=>h),hpi,hw6,fun u8 h8 s8 m8 l8=>by
       rw[←hr]at m8 l8
       rw[←hr]
       exact hK' u8 h8 s8 m8 l8⟩
     refine w_join (fun σ' h2=>keepE σ σ' [1,4,7,36,37,38]∧σ' 10= .int .i64 r.2.1∧σ' 11= .int .i64 r.2.2∧ ∃u2,Step S0 u h u2 h2∧Blk u2 h2 (h.size+1) [.int .i64 0,.int .i64 0,.int .i64 0]∧MapB h2 mb (arOf r.1) r.1.length∧r.1.length≤128) ?_ ?_
     ·have o1:=own_one (k:=hp.size) (a:=c.1) 48 (Nat.le_refl _) (show Rep.rep (ub u' h'.size 0) hp c.1 [str c.1.1,.slice ha c.1.2.1.length hc,.int .i64 c.1.2.2] by rw[rep_atom];exact⟨_,rfl,hhp⟩)
      have s1:=Step.push S0 (ub u' h'.size 0) hp #[str c.1.1,.slice ha c.1.2.1.length hc,.int .i64 c.1.2.2] 48 3
      have Y1:=Y.step0 s1
      have hy1:=Y1.1
      simp(disch:=first|omega|(simp only[zz];try omega;done)) only[↓reduceIte,go_sem,w_both,e1,e4,e7,e36,e37,e38,Y.at,Y.2.1]
      refine⟨effS_call (.inr (.inr (.inl ⟨rfl,_,_,c.2,rfl,hbp.mono s1.ge,hb1,fun u5 h5 w s5 hw5=>⟨zz0,?_⟩⟩))),effS_call (.inr (.inr (.inl ⟨rfl,_,_,c.2,rfl,hbp,hb1,fun u5 h5 w s5 hw5=> ?_⟩)))⟩
      ·have o5:=o1.step0 s5
       have s15:=s1.trans0 s5
       simp(disch:=first|omega|(simp only[zz];try omega;done)) only[↓reduceIte,go_sem]
       refine effS_app o5 hw5 rfl rfl s15.ge.sz (by simp only[List.length_singleton];omega) fun a6 n6 c6 u6 h6 o6 s6=>⟨zz0,?_⟩
       have s16:Step S0 (ub u' h'.size 0) hp u6 h6:=s15.trans s6 (fun j hj hB=>by have:=o5.ge hB;omega)
       simp(disch:=first|omega|(simp only[zz];try omega;done)) only[↓reduceIte,go_sem,e7]
       refine effS_call (.inr (.inr (.inr ⟨rfl,hclash u6 h6 _ _ s16 o6.isSl fun u8 h8 s8 m8 l8=>⟨zz0,?_⟩⟩)))
       have st8:Step S0 u h u8 h8:=(stp.trans0 s16).trans s8 (fun j hj e=>by have e:j=mb:=e;omega)
       have F8:=(Fp.step0 s16).step s8 (fun e=>by have e:h.size+1=mb:=e;omega)
       simp(disch:=first|omega|(simp only[zz];try omega;done)) only[↓reduceIte,go_sem,e1,e4,e7,e36,e37,e38]
       exact⟨_,st8,F8,m8,l8⟩
      ·have Y5:=Y.step0 s5
       have hy5:=Y5.1
       refine⟨by simp(disch:=first|omega|(simp only[zz];try omega;done)) only[↓reduceIte,go_sem,Y.at,Y5.at,Y5.2.1],?_⟩
       have o5:=own_one (k:=hp.size) (a:=c.1) 48 s5.ge.sz (show Rep.rep u5 h5 c.1 [str c.1.1,.slice ha c.1.2.1.length hc,.int .i64 c.1.2.2] by rw[rep_atom];exact⟨_,rfl,hhp.mono s5.ge⟩)
       have s5b:=Step.push S0 u5 h5 #[str c.1.1,.slice ha c.1.2.1.length hc,.int .i64 c.1.2.2] 48 3
       have s15:=s5.trans0 s5b
       simp(disch:=first|omega|(simp only[zz];try omega;done)) only[↓reduceIte,go_sem]
       refine effS_app o5 (hw5.mono s5b.ge) rfl rfl s15.ge.sz (by simp only[List.length_singleton];omega) fun a6 n6 c6 u6 h6 o6 s6=>⟨zz0,?_⟩
       have s16:Step S0 (ub u' h'.size 0) hp u6 h6:=s15.trans s6 (fun j hj hB=>by have:=o5.ge hB;omega)
       simp(disch:=first|omega|(simp only[zz];try omega;done)) only[↓reduceIte,go_sem,e7]
       refine effS_call (.inr (.inr (.inr ⟨rfl,hclash u6 h6 _ _ s16 o6.isSl fun u8 h8 s8 m8 l8=>⟨zz0,?_⟩⟩)))
       have st8:Step S0 u h u8 h8:=(stp.trans0 s16).trans s8 (fun j hj e=>by have e:j=mb:=e;omega)
       have F8:=(Fp.step0 s16).step s8 (fun e=>by have e:h.size+1=mb:=e;omega)
       simp(disch:=first|omega|(simp only[zz];try omega;done)) only[↓reduceIte,go_sem,e1,e4,e7,e36,e37,e38]
       exact⟨_,st8,F8,m8,l8⟩
     ·rintro σ' h2 ⟨hkE,e10,e11,u2,s2,F2,M2,l2⟩
      simp(disch:=first|omega|(simp only[zz];try omega;done)) only[go_sem,e1,e4,e7,e36,e37,e38]at hkE
      obtain⟨k1,k4,k7,k36,k37,k38⟩:=hkE
      have hFl2:=F2.1
      rw[←hr]at heq
      by_cases hc0:r.2.1=0
      ·rw[if_pos hc0]at heq
       simp(disch:=first|omega|(simp only[zz];try omega;done)) only[↓reduceIte,go_sem,k38,e10,eq_true hc0]
       refine⟨i+1,?_,by omega⟩
       rw[hI]
       exact⟨by simp [upd,k1],by simp [upd,k4],by simp [upd,k7],by simp [upd,k36],by simp [upd,k37],by simp [upd],hlt,u2,r.1,s2,F2,M2,l2,heq⟩
      ·rw[if_neg hc0]at heq
       have hf:formF p fs=(r.2.1,0,r.2.2):=by rw[form_eq hw0 (by omega) hg,heq,if_pos hc0]
       simp(disch:=first|omega|(simp only[zz];try omega;done)) only[↓reduceIte,go_sem,k4,e10,e11,eq_false hc0,F2.2.1,F2.2.2.1]
       exact fin _ _ _ _ _ s2 F2 hf
    ·obtain rfl:i=p.length:=by omega
     rw[List.drop_length]at heq
     have heq:clashF [] (p.flatMap atomsC)=(pi,0,0):=heq
     have hmbl:=hM.lt
     simp(disch:=first|omega|(simp only[zz];try omega;done)) only[↓reduceIte,go_sem,crForm_L1,e1,e7,e37,e38]
     refine effS_call (.inr (.inr (.inr ⟨rfl,u',mb,_,pi,fs,rfl,hM,hpi,hlf.mono st.ge,fun u8 h8 s8 m8 l8=>⟨zz0,?_⟩⟩)))
     have st8:Step S0 u h u8 h8:=st.trans s8 (fun j hj e=>by have e:j=mb:=e;omega)
     have F8:=F.step s8 (fun e=>by have e:h.size+1=mb:=e;omega)
     have hFl8:=F8.1
     have hf:=form_eq hw0 (by omega) hg
     rw[heq]at hf
     simp only at hf
     rw[if_neg (by simp)]at hf
     generalize clashF pi fs=r at hf m8 l8
     by_cases hc0:r.2.1=0
     ·rw[if_neg (by simp [hc0])]at hf
      simp(disch:=first|omega|(simp only[zz];try omega;done)) only[↓reduceIte,go_sem,e4,eq_true hc0,F8.2.1,F8.2.2.1]
      exact fin _ _ _ _ _ st8 F8 hf
     ·rw[if_pos hc0]at hf
      simp(disch:=first|omega|(simp only[zz];try omega;done)) only[↓reduceIte,go_sem,e4,eq_false hc0,F8.2.1,F8.2.2.1]
      exact fin _ _ _ _ _ st8 F8 hf
   ·have hf:formF p fs=(2,1,a.2.2):=by
     have hfd:(fs.find? fun a=> !grB a)=some a:=by
      rw[List.find?_eq_some_iff_getElem]
      obtain⟨hi,rfl⟩:=List.getElem?_eq_some_iff.1 hia
      refine⟨by simp [hga],i,hi,rfl,fun j hj=> ?_⟩
      have:=htk fs[j] (List.mem_take_iff_getElem.2 ⟨j,by omega,rfl⟩)
      simp [this]
     unfold formF
     rw[if_neg (by simp [hw0]),if_neg h4,hfd]
    have F3:=F2.step0 s3
    have st3:=st2.trans0 s3
    have hil:=(List.getElem?_eq_some_iff.1 hia).1
    obtain⟨pb,po,hfa,hpb,hpu,hpz,hpr⟩:=(hlf.mono st3.ge).row i a hia
    subst hfa
    rw[rep_atom]at hpr
    obtain⟨pv,hpr,hpv⟩:=hpr
    simp only[sz_atom,hvs_3,List.cons.injEq,and_true]at hpr hpu hpz
    obtain⟨p0,p1,p2⟩:=hpr
    simp(disch:=first|omega|(simp only[zz];try omega;done)) only[↓reduceIte,go_sem,eq_true hil,p2,F3.2.1,F3.2.2.1]
    exact fin _ _ _ _ _ st3 F3 hf
 ·have hf:formF p fs=(wellW p,0,0):=by unfold formF;rw[if_pos hw0]
  simp(disch:=first|omega|(simp only[zz];try omega;done)) only[↓reduceIte,go_sem,eq_false hw0,F2.2.1,F2.2.2.1]
  exact fin _ _ _ _ _ st2 F2 hf
end Go.Proofs.YtmjinnbdnpedcaaGreat
