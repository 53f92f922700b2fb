/- The reference's Build, whole. -/
import Derived.Test.YtmjinnbdnpedcaaGreatCbZ
namespace Edict
theorem lit_kind{x:Literal}(h:litW x=0):x.1=1∨x.1=2∨x.1=3:=by
 unfold litW at h
 by_cases h1:x.1=1∨x.1=2
 ·omega
 ·rw[if_neg h1]at h
  by_cases h3:x.1=3
  ·exact .inr (.inr h3)
  ·rw[if_neg h3]at h;cases h
theorem lit_args{x:Literal}(h:litW x=0):x.2.1.2.1.length≤8:=by
 unfold litW at h
 by_cases h1:x.1=1∨x.1=2
 ·rw[if_pos h1]at h
  split at h
  ·exact atomW_few h
  ·cases h
 ·rw[if_neg h1]at h
  by_cases h3:x.1=3
  ·rw[if_pos h3]at h
   unfold testW at h
   split at h
   ·cases h
   ·rename_i hh
    have hn:x.2.1.2.1=[]:=Decidable.byContradiction fun e=>hh (.inr (.inr (.inr e)))
    rw[hn];exact Nat.zero_le _
  ·rw[if_neg h3]at h;cases h
theorem refF_gv{p:List Clause}{fs:List Atom}(h:gvF p fs≠(0,0,0)):refF p fs=(core0,gvF p fs):=by unfold refF;rw[if_pos h]
theorem refF_rp{p:List Clause}{fs:List Atom}(h:gvF p fs=(0,0,0))(h2:(rpF [] (stoodsF p fs)).2≠(0,0,0)):refF p fs=(core0,(rpF [] (stoodsF p fs)).2):=by unfold refF;rw[if_neg (by simp [h]),if_pos h2]
theorem refF_bd{p:List Clause}{fs:List Atom}(h:gvF p fs=(0,0,0))(h2:(rpF [] (stoodsF p fs)).2=(0,0,0))(h3:boundF p≠(0,0,0)):refF p fs=(core0,boundF p):=by unfold refF;rw[if_neg (by simp [h]),if_neg (by simp [h2]),if_pos h3]
theorem refF_full{p:List Clause}{fs:List Atom}(h:gvF p fs=(0,0,0))(h2:(rpF [] (stoodsF p fs)).2=(0,0,0))(h3:boundF p=(0,0,0)){x:Put}(h4:(firstsF [] (putsF p fs))[65536]? =some x):refF p fs=(core0,6,x.2.1,x.1.2.2.2):=by unfold refF;rw[if_neg (by simp [h]),if_neg (by simp [h2]),if_neg (by simp [h3]),h4]
theorem refF_ok{p:List Clause}{fs:List Atom}(h:gvF p fs=(0,0,0))(h2:(rpF [] (stoodsF p fs)).2=(0,0,0))(h3:boundF p=(0,0,0))(h4:(firstsF [] (putsF p fs))[65536]? =none):refF p fs=(refC p fs (rpF [] (stoodsF p fs)).1 ((firstsF [] (putsF p fs)).map fun x=>cnst x.1),0,0,0):=by unfold refF;rw[if_neg (by simp [h]),if_neg (by simp [h2]),if_neg (by simp [h3]),h4]
theorem puts_con{p:List Clause}{fs:List Atom}{t:Term}(ht:t∈p.flatMap termsC∨t∈fs.flatMap (·.2.1))(h4:t.1≠4):cnst t∈(firstsF [] (putsF p fs)).map fun x=>cnst x.1:=by
 have h:=firstsF_vals (putsF p fs) []
 rw[List.nil_append]at h
 rw[h]
 have hm:(putsF p fs).map (·.1)=p.flatMap termsC++fs.flatMap (·.2.1):=by
  unfold putsF;rw[enum_fst,List.map_append]
  congr 1
  ·unfold rawP;rw[List.map_map];exact List.map_id' _
  ·unfold rawA;rw[List.map_map];exact List.map_id' _
 rw[hm]
 have hmem:t∈p.flatMap termsC++fs.flatMap (·.2.1):=List.mem_append.2 ht
 generalize p.flatMap termsC++fs.flatMap (·.2.1)=L at hmem
 have keep: ∀(l:List Term) (cs:List Const) (c:Const),c∈cs→c∈l.foldl valT cs:=by
  intro l
  induction l with
  |nil=>intro cs c h;exact h
  |cons y l ih=>
   intro cs c h
   refine ih _ _ ?_
   unfold valT
   split
   ·exact h
   ·simp [h]
 have key: ∀(l:List Term) (cs:List Const),t∈l→cnst t∈l.foldl valT cs:=by
  intro l
  induction l with
  |nil=>intro cs h;simp at h
  |cons y l ih=>
   intro cs h
   rcases List.mem_cons.1 h with rfl|h
   ·refine keep l _ _ ?_
    unfold valT
    split
    ·rename_i hc
     exact hc.resolve_left h4
    ·simp
   ·exact ih _ h
 exact key L [] hmem
theorem puts_txt{p:List Clause}{fs:List Atom}(hp:Go.Ev.Rep.wf p)(hf:Go.Ev.Rep.wf fs): ∀x∈putsF p fs,x.1.2.2.1.length≤9223372036854775807:=by
 intro x hx
 obtain⟨i,h1,-⟩:=enum_at _ 0 hx
 have hm:=List.mem_of_getElem? h1
 rcases List.mem_append.1 hm with hm|hm
 ·unfold rawP at hm
  obtain⟨t,ht,e⟩:=List.mem_map.1 hm
  obtain⟨c,hc,ht⟩:=List.mem_flatMap.1 ht
  have hw:=hp.2 c hc
  have e1:x.1=t:=(Prod.mk.inj e).1.symm
  rw[e1]
  unfold termsC at ht
  rcases List.mem_append.1 ht with ht|ht
  ·exact(hw.1.2.1.2 t ht).2.2.1
  ·obtain⟨y,hy,ht⟩:=List.mem_flatMap.1 ht
   have hyw:=hw.2.2 y hy
   unfold termsL at ht
   split at ht
   ·exact(hyw.2.1.2.1.2 t ht).2.2.1
   ·split at ht
    ·rcases List.mem_cons.1 ht with rfl|ht
     ·exact hyw.2.2.2.1.2.2.1
     ·rcases List.mem_singleton.1 ht with rfl;exact hyw.2.2.2.2.1.2.2.1
    ·simp at ht
 ·unfold rawA at hm
  obtain⟨t,ht,e⟩:=List.mem_map.1 hm
  obtain⟨a,ha,ht⟩:=List.mem_flatMap.1 ht
  have e1:x.1=t:=(Prod.mk.inj e).1.symm
  rw[e1]
  exact((hf.2 a ha).2.1.2 t ht).2.2.1
end Edict
namespace Go.Proofs.YtmjinnbdnpedcaaGreat
open Go Go.Ev Edict
theorem BX.out{K:Value→H→Prop}{u0:U}{h0:H}{p:List Clause}{fs:List Atom}{la fa:Option Addr}{lc fc:Nat}{σ:Env}{u:U}{h:H}{a b c:Int}(X:BX u0 h0 p.length fs.length la fa lc fc σ u h)(hb:refF p fs=(core0,a,b,c))(hK:Kb u0 h0 p fs K):
  ∃H1 H2,H1=hsets h (h0.size+1) 0 [.slice none 0 0,.slice none 0 0,.slice none 0 0,.slice none 0 0]∧H2=hsets H1 (h0.size+2) 0 [.int .i64 a,.int .i64 b,.int .i64 c]∧K (.tuple #[.agg #[.slice none 0 0,.slice none 0 0,.slice none 0 0,.slice none 0 0],fV (a,b,c)]) H2∧Blk u H1 (h0.size+2) [.int .i64 0,.int .i64 0,.int .i64 0]∧Blk u H2 (h0.size+1) [.slice none 0 0,.slice none 0 0,.slice none 0 0,.slice none 0 0]∧Blk u H2 (h0.size+2) [.int .i64 a,.int .i64 b,.int .i64 c]∧Step (fun j=>j=h0.size+1) u h u H1:=by
 have sw:=X.R.stepSets (l:=[.slice none 0 0,.slice none 0 0,.slice none 0 0,.slice none 0 0]) rfl
 have R1:=X.R.sets (l:=[.slice none 0 0,.slice none 0 0,.slice none 0 0,.slice none 0 0]) rfl
 have F1:=X.F.step sw fun e=>by have e:h0.size+2=h0.size+1:=e;omega
 have sw2:=F1.stepSets (l:=[.int .i64 a,.int .i64 b,.int .i64 c]) rfl
 have F2:=F1.sets (l:=[.int .i64 a,.int .i64 b,.int .i64 c]) rfl
 have R2:=R1.step sw2 fun e=>by have e:h0.size+1=h0.size+2:=e;omega
 have st2:=(X.st.own sw fun j e=>by have e:j=h0.size+1:=e;omega).own sw2 fun j e=>by have e:j=h0.size+2:=e;omega
 have hK':=hK _ _ [.slice none 0 0,.slice none 0 0,.slice none 0 0,.slice none 0 0] st2 (by
  rw[←ref_build,hb]
  exact rep_core (IsSl.nil _ _) (IsSl.nil _ _) (IsSl.nil _ _) (IsSl.nil _ _))
 rw[←ref_build,hb]at hK'
 exact⟨_,_,rfl,rfl,hK',F1,R2,F2,sw⟩
structure GvX (u0:U) (h0:H) (p:List Clause) (fs:List Atom) (la fa:Option Addr) (lc fc:Nat):Prop where
 hl:IsSl u0 h0 (.slice la p.length lc) p
 hf:IsSl u0 h0 (.slice fa fs.length fc) fs
 wp:Rep.wf p
 wf:Rep.wf fs
 gv:gvF p fs=(0,0,0)
theorem rT7_ok {K:Value→H→Prop} {KP:List PanicEntry→H→Prop} {u0:U} {h0:H} {p:List Clause} {fs:List Atom} {la fa:Option Addr} {lc fc:Nat} {σ:Env} {u:U} {h:H} {vP:Value}
  (Z:GvX u0 h0 p fs la fa lc fc) (X:BX u0 h0 p.length fs.length la fa lc fc σ u h) (e8:σ 8=vP) (iP:IsSl u h vP (rpF [] (stoodsF p fs)).1) (h2:(rpF [] (stoodsF p fs)).2=(0,0,0)) (h3:boundF p=(0,0,0)) (hK:Kb u0 h0 p fs K):wpS G_rfBuild rT7 (retQ rfBuild_E (callK K KP)) σ h:=by
 have hm:=mlen'
 obtain⟨g1,g2,g3⟩:=gv_parts Z.gv
 obtain⟨w1,w2⟩:=well_clauses g1
 have x1:=X.e1
 have x2:=X.e2
 have x4:=X.e4
 have x5:=X.e5
 have A:=X.A
 have al:=A.1
 have hpT: ∀c∈p,(termsC c).length≤136∧ ∀x∈c.2,Kind3 x:=fun c hc=>⟨clauseW_few (w2 c hc),fun x hx=>lit_kind (firstW_all0 (by
  have:=w2 c hc
  unfold clauseW at this
  split at this
  ·split at this
   ·cases this
   ·exact this
  ·rename_i hh;exact absurd this hh) x hx)⟩
 have hf8: ∀a∈fs,a.2.1.length≤8:=fun a ha=>atomW_few (grB_w (g3 a ha))
 rw[rT7_cut,rT8_cut,rT9_cut]
 simp(disch:=first|omega|(simp only[zz];try omega;done)) only[↓reduceIte,go_sem,rT9,rT8,rT7,rT6,rT5,rT4,rT3,rT2,rT1,rfBuild_S,sS,sF,x1,x2,A.at,A.2.1]
 refine effS_call (.inr (.inr (.inr (.inr (.inr (.inr (.inr (.inl ⟨rfl,u,_,_,p,fs,rfl,Z.hl.mono X.st.ge,Z.hf.mono X.st.ge,w1,hpT,g2,hf8,fun u2 h2' w2' s2 hw2=>⟨zz0,?_⟩⟩))))))))
 have hraw1:=rawP_len fun c hc=>(hpT c hc).1
 have hraw2:=rawA_len hf8
 have hpl:(putsF p fs).length≤1000000:=by unfold putsF;rw[enum_len,List.length_append];omega
 simp(disch:=first|omega|(simp only[zz];try omega;done)) only[↓reduceIte,go_sem]
 refine effS_call (.inr (.inr (.inr (.inr (.inr (.inr (.inl ⟨rfl,u2,_,putsF p fs,rfl,hw2,hpl,enum_up _ _,puts_txt Z.wp Z.wf,fun u3 h3' w3 s3 hw3=>⟨zz0,?_⟩⟩)))))))
 have s23:=s2.trans0 s3
 obtain⟨F,hF⟩: ∃F,F=firstsF [] (putsF p fs):=⟨_,rfl⟩
 rw[←hF]at hw3
 obtain⟨wa,wc,rfl,-,-⟩:=hw3.sl
 by_cases hlen:F.length≤65536
 ·have h4:(firstsF [] (putsF p fs))[65536]? =none:=by rw[←hF];exact List.getElem?_eq_none_iff.2 hlen
  have hb:=refF_ok Z.gv h2 h3 h4
  rw[←hF]at hb
  simp(disch:=first|omega|(simp only[zz];try omega;done)) only[↓reduceIte,go_sem,eq_false (show¬(65536:Int)<F.length by omega)]
  have hnd:=firstsF_nodup (putsF p fs) [] List.nodup_nil
  rw[List.nil_append,←hF]at hnd
  refine rT10_ok (X.go s23 (fun _ e=>e.elim) (by simp [upd]) (by simp [upd]) (by simp [upd]) (by simp [upd])) (by simp [upd,e8]) (iP.mono s23.ge) (by simp [upd]) hw3 hlen hnd (fun x hx=>puts_txt Z.wp Z.wf x ((firstsF_sub _ _).mem (hF▸hx))) Z.hl w1 (fun c hc=> ?_) Z.hf g2 (fun a ha=>⟨hf8 a ha,fun t ht=> ?_⟩) hb hK
  ·have hcw:=w2 c hc
   have hca:=clause_atoms hcw
   have hcon: ∀t∈termsC c,t.1≠4→cnst t∈F.map fun x=>cnst x.1:=fun t ht h4=>by
    rw[hF];exact puts_con (.inl (List.mem_flatMap.2 ⟨c,hc,ht⟩)) h4
   refine⟨hca.1,atomW_few (hca.2 c.1 (by unfold atomsC;exact List.mem_cons_self ..)),fun x hx=>⟨(hpT c hc).2 x hx,lit_args (firstW_all0 (by
    unfold clauseW at hcw
    split at hcw
    ·split at hcw
     ·cases hcw
     ·exact hcw
    ·rename_i hh;exact absurd hcw hh) x hx)⟩,hcon,fun he t ht=> ?_⟩
   refine hcon t (by unfold termsC;exact List.mem_append.2 (.inl ht)) fun h4=> ?_
   have hlo:=(boundC_some (boundF_all h3 c hc)).2
   unfold looseO at hlo
   rw[List.find?_eq_none]at hlo
   have:=hlo t (by unfold allTerms;exact List.mem_append.2 (.inl ht))
   apply this
   rw[loose_iff]
   refine⟨h4,.inr ?_⟩
   rw[he];unfold varsF;simp
  ·rw[hF]
   refine puts_con (.inr (List.mem_flatMap.2 ⟨a,ha,ht⟩)) fun h4=> ?_
   have:=g3 a ha
   unfold grB at this
   rw[Bool.and_eq_true,List.all_eq_true]at this
   have:=this.2 t ht
   rw[h4]at this
   simp at this
 ·obtain⟨x,hx⟩: ∃x,F[65536]? =some x:=⟨F[65536]'(by omega),by rw[List.getElem?_eq_getElem (by omega)]⟩
  have hb:=refF_full Z.gv h2 h3 (hF▸hx)
  obtain⟨pb,po,rfl,hpb,hpu,hpz,hpr⟩:=hw3.row 65536 x hx
  simp only[rep_put,Put.enc,sz_put,hvs_6,List.cons.injEq,and_true]at hpr hpu hpz
  obtain⟨p0,p1,p2,p3,p4,p5⟩:=hpr
  have sp:=Step.push0 S0 u3 h3' #[.int .i64 x.1.1,.int .i64 x.1.2.1,str x.1.2.2.1,.int .i64 x.1.2.2.2,.int .i64 x.2.1,.int .i64 x.2.2] 58
  have T1:=Blk.new (u:=u3) (h:=h3') [.int .i64 x.1.1,.int .i64 x.1.2.1,str x.1.2.2.1,.int .i64 x.1.2.2.2,.int .i64 x.2.1,.int .i64 x.2.2] 58
  have X9:=(X.go (σ':=σ) s23 (fun _ e=>e.elim) rfl rfl rfl rfl).go (σ':=σ) sp (fun _ e=>e.elim) rfl rfl rfl rfl
  have hzz:h0.size+3≤h3'.size:=Nat.le_trans X.z s23.ge.sz
  obtain⟨H1,H2,hH1,hH2,k,F1,R2,F2,sw⟩:=X9.out hb hK
  have T2:=T1.step sw fun e=>by have e:h3'.size=h0.size+1:=e;omega
  have hR:=X9.R.2.1
  have hR2:=X9.R.2.2.1
  clear hzz
  have q4:=T1.at 4 (by simp)
  have q3:=T1.at 3 (by simp)
  have q40:=T2.at 4 (by simp)
  have q30:=T2.at 3 (by simp)
  rw[hH1]at T2 F1 sw q40 q30 hH2
  rw[hH2]at k R2 F2
  simp(disch:=first|omega|(simp only[zz];try omega;done)) only[↓reduceIte,go_sem,eq_true (show(65536:Int)<F.length by omega),p0,p1,p2,p3,p4,p5,x4,x5,rfBuild_E,hR,hR2,T2.at,T2.2.1,F1.2.1,F1.2.2.1,R2.at,R2.2.1,F2.at,F2.2.1]
  exact k
theorem boundF_step{c:Clause}{l:List Clause}:boundF (c::l)=if boundC c=(0,0,0)then boundF l else boundC c:=rfl
theorem rT6_ok {K:Value→H→Prop} {KP:List PanicEntry→H→Prop} {u0:U} {h0:H} {p:List Clause} {fs:List Atom} {la fa:Option Addr} {lc fc:Nat} {σ:Env} {u:U} {h:H} {vP:Value}
  (Z:GvX u0 h0 p fs la fa lc fc) (X:BX u0 h0 p.length fs.length la fa lc fc σ u h) (e8:σ 8=vP) (iP:IsSl u h vP (rpF [] (stoodsF p fs)).1) (h2:(rpF [] (stoodsF p fs)).2=(0,0,0)) (hK:Kb u0 h0 p fs K):wpS G_rfBuild rT6 (retQ rfBuild_E (callK K KP)) σ h:=by
 have hm:=mlen'
 obtain⟨g1,g2,g3⟩:=gv_parts Z.gv
 obtain⟨w1,w2⟩:=well_clauses g1
 have hl:=Z.hl
 rw[rT6_cut]
 simp(disch:=first|omega|(simp only[zz];try omega;done)) only[go_sem,rT6,rT5,rT4,rT3,rT2,rT1,rfBuild_S,sS,sF]
 obtain⟨I,hI⟩: ∃I:Nat→Env→H→Prop,I=fun i σ h'=>σ 9= .int .i64 i∧σ 8=vP∧i≤p.length∧boundF p=boundF (p.drop i)∧ ∃u',BX u0 h0 p.length fs.length la fa lc fc σ u' h'∧IsSl u' h' vP (rpF [] (stoodsF p fs)).1:=⟨_,rfl⟩
 refine wpS_loop I (fun i=>p.length - i) 0 (by
  rw[hI]
  exact⟨by simp [upd],by simp [upd,e8],Nat.zero_le _,rfl,u,X.go (Step.refl S0 u h) (fun _ e=>e.elim) (by simp [upd]) (by simp [upd]) (by simp [upd]) (by simp [upd]),iP⟩) ?_
 clear X iP e8
 intro i σ h' hy
 rw[hI]at hy
 obtain⟨e9,e8,hi,heq,u',X,iP⟩:=hy
 have x1:=X.e1
 have x2:=X.e2
 have x4:=X.e4
 have x5:=X.e5
 have A:=X.A
 have al:=A.1
 have hz:=X.z
 by_cases hlt:i<p.length
 ·obtain⟨x,hs⟩: ∃x,p[i]? =some x:=⟨p[i],by simp [hlt]⟩
  have hdr:p.drop i=x::p.drop (i+1):=by
   obtain⟨hi',e⟩:=List.getElem?_eq_some_iff.1 hs
   rw[←e];exact List.drop_eq_getElem_cons hi'
  rw[hdr,boundF_step]at heq
  have hcw:=w2 x (List.mem_of_getElem? hs)
  have hk3: ∀y∈x.2,Kind3 y:=fun y hy=>lit_kind (firstW_all0 (by
   unfold clauseW at hcw
   split at hcw
   ·split at hcw
    ·cases hcw
    ·exact hcw
   ·rename_i hh;exact absurd hcw hh) y hy)
  obtain⟨pb,po,rfl,hpb,hpu,hpz,hpr⟩:=(hl.mono X.st.ge).row i x hs
  rw[rep_clause]at hpr
  obtain⟨va,vb,hpr,hh,hbd⟩:=hpr
  obtain⟨ha,hca,rfl,-,-⟩:=hh.sl
  obtain⟨ba,bca,rfl,-,-⟩:=hbd.sl
  simp only[sz_clause,hvs_4,List.cons.injEq,and_true]at hpr hpu hpz
  obtain⟨p0,p1,p2,p3⟩:=hpr
  simp(disch:=first|omega|(simp only[zz];try omega;done)) only[↓reduceIte,go_sem,rfBuild_L1,x2,e9,A.at,A.2.1,hlt]
  obtain⟨M,hM⟩: ∃M:Env→H→Prop,M=fun σ' h3=> ∃u3 q,BX u0 h0 p.length fs.length (some ⟨pb,po,none⟩) fa lc fc σ' u3 h3∧Step S0 u' h' u3 h3∧σ' 8=vP∧σ' 9= .int .i64 i∧σ' 10= .pointer (some ⟨q,0,none⟩)∧σ' 11= .bool (decide (boundC x≠(0,0,0)))∧Blk u3 h3 q [.int .i64 (boundC x).1,.int .i64 (boundC x).2.1,.int .i64 (boundC x).2.2]∧h0.size+3≤q:=⟨_,rfl⟩
  have hbk:=clauseW_bulk hcw
  have hfw:=clauseW_few hcw
  refine w_join M ?_ ?_
  ·simp(disch:=first|omega|(simp only[zz];try omega;done)) only[↓reduceIte,go_sem,w_both,x2,e9,A.at,A.2.1,hlt,p1,p3]
   refine⟨effS_call (.inr (.inr (.inr (.inr (.inr (.inr (.inr (.inr (.inl ⟨rfl,u',_,_,x,rfl,hh,hbd,hbk,hfw,hk3,fun u4 h4 s4=>⟨zz0,?_⟩⟩))))))))),?_⟩
   ·have sp:=Step.push0 S0 u4 h4 #[.int .i64 (boundC x).1,.int .i64 (boundC x).2.1,.int .i64 (boundC x).2.2] 34
    have T1:=Blk.new (u:=u4) (h:=h4) [.int .i64 (boundC x).1,.int .i64 (boundC x).2.1,.int .i64 (boundC x).2.2] 34
    simp(disch:=first|omega|(simp only[zz];try omega;done)) only[↓reduceIte,go_sem,fV]
    rw[hM]
    exact⟨_,h4.size,X.go (s4.trans0 sp) (fun _ e=>e.elim) (by simp [upd]) (by simp [upd]) (by simp [upd]) (by simp [upd]),s4.trans0 sp,by simp [upd,e8],by simp [upd,e9],by simp [upd],by simp [upd],T1,Nat.le_trans hz s4.ge.sz⟩
   ·have sp:=Step.push0 S0 u' h' #[.int .i64 0,.int .i64 0,.int .i64 0] 34
    have T1:=Blk.new (u:=u') (h:=h') [.int .i64 0,.int .i64 0,.int .i64 0] 34
    refine effS_call (.inr (.inr (.inr (.inr (.inr (.inr (.inr (.inr (.inl ⟨rfl,ub u' h'.size 0,_,_,x,rfl,hh.mono sp.ge,hbd.mono sp.ge,hbk,hfw,hk3,fun u4 h4 s4=>⟨zz0,?_⟩⟩)))))))))
    have s5:=sp.trans0 s4
    have T2:=T1.step0 s4
    have t2l:=T2.1
    have sw:=T2.stepSets (l:=[.int .i64 (boundC x).1,.int .i64 (boundC x).2.1,.int .i64 (boundC x).2.2]) rfl
    have T3:=T2.sets (l:=[.int .i64 (boundC x).1,.int .i64 (boundC x).2.1,.int .i64 (boundC x).2.2]) rfl
    simp(disch:=first|omega|(simp only[zz];try omega;done)) only[↓reduceIte,go_sem,fV,T2.2.1,T2.2.2.1]
    rw[hM]
    have X4:=X.go (σ':=σ) s5 (fun _ e=>e.elim) rfl rfl rfl rfl
    exact⟨_,h'.size,X4.go sw (fun j e=>by have e:j=h'.size:=e;omega) (by simp [upd]) (by simp [upd]) (by simp [upd]) (by simp [upd]),s5.own sw (fun j e=>by have e:j=h'.size:=e;omega),by simp [upd,e8],by simp [upd,e9],by simp [upd],by simp [upd],T3,hz⟩
  intro σ3 h3 hM3
  rw[hM]at hM3
  obtain⟨u3,q,X3,s3,g8,g9,g10,g11,T,hq⟩:=hM3
  clear hM M
  have iP3:=iP.mono s3.ge
  have tl:=T.1
  by_cases hbc:boundC x=(0,0,0)
  ·rw[if_pos hbc]at heq
   rw[decide_eq_false (by simp [hbc])]at g11
   simp(disch:=first|omega|(simp only[zz];try omega;done)) only[↓reduceIte,go_sem,g9,g11]
   refine⟨i+1,?_,by omega⟩
   rw[hI]
   exact⟨by simp [upd],by simp [upd,g8],hlt,heq,u3,X3.go (Step.refl S0 u3 h3) (fun _ e=>e.elim) (by simp [upd]) (by simp [upd]) (by simp [upd]) (by simp [upd]),iP3⟩
  ·rw[if_neg hbc]at heq
   rw[decide_eq_true hbc]at g11
   have hb:=refF_bd Z.gv h2 (by rw[heq];exact hbc)
   rw[heq]at hb
   have hb':refF p fs=(core0,(boundC x).1,(boundC x).2.1,(boundC x).2.2):=hb
   obtain⟨H1,H2,hH1,hH2,kk,F1,R2,F2,sw⟩:=X3.out hb' hK
   have T2:=T.step sw fun e=>by have e:q=h0.size+1:=e;omega
   have hR:=X3.R.2.1
   have hR2:=X3.R.2.2.1
   have y4:=X3.e4
   have y5:=X3.e5
   have rl:=X3.R.1
   have f1l:=F1.1
   have r2l:=R2.1
   have f2l:=F2.1
   have t2l:=T2.1
   rw[hH1]at T2 F1 hH2 f1l t2l
   rw[hH2]at kk R2 F2 r2l f2l
   simp(disch:=first|omega|(simp only[zz];try omega;done)) only[↓reduceIte,go_sem,g10,g11,y4,y5,T.at,T.2.1,rfBuild_E,hR,hR2,T2.at,T2.2.1,F1.2.1,F1.2.2.1,R2.at,R2.2.1,F2.at,F2.2.1]
   exact kk
 ·obtain rfl:i=p.length:=by omega
  rw[List.drop_length]at heq
  simp(disch:=first|omega|(simp only[zz];try omega;done)) only[↓reduceIte,go_sem,rfBuild_L1,x2,e9,A.at,A.2.1]
  exact rT7_ok Z (X.go (Step.refl S0 u' h') (fun _ e=>e.elim) (by simp [upd]) (by simp [upd]) (by simp [upd]) (by simp [upd])) (by simp [upd,e8]) iP h2 heq hK
theorem gv_code(p:List Clause)(fs:List Atom):gvF p fs=(0,0,0)∨(gvF p fs).1≠0:=by
 unfold gvF
 split
 ·rename_i h;exact .inr h
 ·split
  ·exact .inr (by simp)
  ·split
   ·exact .inr (by simp)
   ·exact .inl rfl
theorem rp_code: ∀(L:List Stood) (ps:List Pred),(rpF ps L).2=(0,0,0)∨(rpF ps L).2.1≠0
 |[],_=> .inl rfl
 |(a,k)::L,ps=>by
  rw[rpF_cons]
  cases arOf ps a.1 with
  |some n=>
   simp only
   split
   ·exact rp_code L ps
   ·exact .inr (by simp)
  |none=>
   simp only
   split
   ·exact .inr (by simp)
   ·exact rp_code L _
def C_rBuild(vs:List Value)(h:H)(K:Value→H→Prop):Prop:= ∃(u:U) (v w:Value) (p:List Clause) (fs:List Atom),vs=[.agg #[v],w]∧IsSl u h v p∧IsSl u h w fs∧Rep.wf p∧Rep.wf fs∧Kb u h p fs K
theorem rfBuild_ok{vs:List Value}{h:H}{K:Value→H→Prop}{KP:List PanicEntry→H→Prop}(hC:C_rBuild vs h K):HCX Tryz.prog 4 vs h K KP:=by
 obtain⟨u,v,w,p,fs,rfl,hl,hf,hwp,hwf,hK⟩:=hC
 obtain⟨la,lc,rfl,q1,q2⟩:=hl.sl
 obtain⟨fa,fc,rfl,q3,q4⟩:=hf.sl
 have hm:=mlen'
 refine rfBuild_H G_rfBuild G_rfBuild_ok _ _ ?_
 have s1:=Step.push0 S0 u h #[.slice la p.length lc] 24
 have A1:=Blk.new (u:=u) (h:=h) [.slice la p.length lc] 24
 have s2:=Step.push0 S0 (ub u h.size 0) (h.push (.cells #[.slice la p.length lc] 24)) #[.slice none 0 0,.slice none 0 0,.slice none 0 0,.slice none 0 0] 31
 have R1:=Blk.new (u:=ub u h.size 0) (h:=h.push (.cells #[.slice la p.length lc] 24)) [.slice none 0 0,.slice none 0 0,.slice none 0 0,.slice none 0 0] 31
 have s3:=Step.push0 S0 (ub (ub u h.size 0) (h.push (.cells #[.slice la p.length lc] 24)).size 0) ((h.push (.cells #[.slice la p.length lc] 24)).push (.cells #[.slice none 0 0,.slice none 0 0,.slice none 0 0,.slice none 0 0] 31)) #[.int .i64 0,.int .i64 0,.int .i64 0] 34
 have F1:=Blk.new (u:=ub (ub u h.size 0) (h.push (.cells #[.slice la p.length lc] 24)).size 0) (h:=(h.push (.cells #[.slice la p.length lc] 24)).push (.cells #[.slice none 0 0,.slice none 0 0,.slice none 0 0,.slice none 0 0] 31)) [.int .i64 0,.int .i64 0,.int .i64 0] 34
 have A3:=(A1.step0 s2).step0 s3
 have R3:=R1.step0 s3
 have st3:=(s1.trans0 s2).trans0 s3
 obtain⟨u3,hu3⟩: ∃u3,u3=ub (ub (ub u h.size 0) (h.push (.cells #[.slice la p.length lc] 24)).size 0) ((h.push (.cells #[.slice la p.length lc] 24)).push (.cells #[.slice none 0 0,.slice none 0 0,.slice none 0 0,.slice none 0 0] 31)).size 0:=⟨_,rfl⟩
 obtain⟨h3,hh3⟩: ∃h3,h3=(((h.push (.cells #[.slice la p.length lc] 24)).push (.cells #[.slice none 0 0,.slice none 0 0,.slice none 0 0,.slice none 0 0] 31)).push (.cells #[.int .i64 0,.int .i64 0,.int .i64 0] 34)):=⟨_,rfl⟩
 rw[←hu3,←hh3]at A3 R3 F1 st3
 simp only[e_psz]at R3 F1
 have hz3:h3.size=h.size+3:=by rw[hh3];simp only[e_psz]
 rw[rT0_cut,rT1_cut,rT2_cut]
 have a3l:=A3.1
 have h11:h.size+1+1=h.size+2:=rfl
 simp(disch:=first|omega|(simp only[zz];try omega;done)) only[↓reduceIte,go_sem,h11,rT2,rT1,rfBuild_S,sS,sF,←hh3,A3.at,A3.2.1]
 refine effS_call (.inr (.inr (.inr (.inr (.inr (.inr (.inr (.inr (.inr (.inr (.inr ⟨rfl,u3,_,_,p,fs,rfl,hl.mono st3.ge,hf.mono st3.ge,hwp,hwf,fun u4 h4 s4=>⟨zz0,?_⟩⟩)))))))))))
 have F1:Blk u3 h3 (h.size+2) [.int .i64 0,.int .i64 0,.int .i64 0]:=F1
 have sp:=Step.push0 S0 u4 h4 #[.int .i64 (gvF p fs).1,.int .i64 (gvF p fs).2.1,.int .i64 (gvF p fs).2.2] 34
 have T1:=Blk.new (u:=u4) (h:=h4) [.int .i64 (gvF p fs).1,.int .i64 (gvF p fs).2.1,.int .i64 (gvF p fs).2.2] 34
 have s45:=s4.trans0 sp
 obtain⟨u5,hu5⟩: ∃u5,u5=ub u4 h4.size 0:=⟨_,rfl⟩
 obtain⟨h5,hh5⟩: ∃h5,h5=h4.push (.cells #[.int .i64 (gvF p fs).1,.int .i64 (gvF p fs).2.1,.int .i64 (gvF p fs).2.2] 34):=⟨_,rfl⟩
 have hz5:h5.size=h4.size+1:=by rw[hh5];simp only[e_psz]
 have hz4:=s4.ge.sz
 rw[←hu5,←hh5]at sp s45
 have T1:Blk u5 h5 h4.size [.int .i64 (gvF p fs).1,.int .i64 (gvF p fs).2.1,.int .i64 (gvF p fs).2.2]:=by rw[hu5,hh5];exact T1
 have X5: ∀σ:Env,σ 1= .slice fa fs.length fc→σ 2= .pointer (some ⟨h.size,0,none⟩)→σ 4= .pointer (some ⟨h.size+1,0,none⟩)→σ 5= .pointer (some ⟨h.size+2,0,none⟩)→BX u h p.length fs.length la fa lc fc σ u5 h5:=fun σ g1 g2 g4 g5=>⟨st3.trans0 s45,g1,g2,g4,g5,A3.step0 s45,R3.step0 s45,F1.step0 s45,by omega⟩
 have t1l:=T1.1
 have A5:=A3.step0 s45
 have a5l:=A5.1
 -- a fault that lies in the block at h4.size
 by_cases hg:gvF p fs=(0,0,0)
 ·have hg1:(gvF p fs).1=0:=by rw[hg]
  simp(disch:=first|omega|(simp only[zz];try omega;done)) only[↓reduceIte,go_sem,fV,←hh5,T1.at,T1.2.1,eq_true hg1]
  rw[rT3_cut,rT4_cut,rT5_cut]
  obtain⟨g1,g2,g3⟩:=gv_parts hg
  obtain⟨w1,w2⟩:=well_clauses g1
  simp(disch:=first|omega|(simp only[zz];try omega;done)) only[↓reduceIte,go_sem,rT5,rT4,rT3,rT2,rT1,rfBuild_S,sS,sF,A5.at,A5.2.1]
  refine effS_call (.inr (.inr (.inr (.inr (.inr (.inr (.inr (.inr (.inr (.inr (.inl ⟨rfl,u5,_,_,p,fs,rfl,hl.mono (st3.trans0 s45).ge,hf.mono (st3.trans0 s45).ge,w1,fun c hc=>(clause_atoms (w2 c hc)).1,g2,fun u6 h6 w6 s6 hw6=>⟨zz0,?_⟩⟩)))))))))))
  have hsl:(stoodsF p fs).length≤1000000:=by
   have h1:=stoodC_len p fun c hc=>(clause_atoms (w2 c hc)).1
   unfold stoodsF
   have h2:(fs.map fun a=>(a,(1:Int))).length=fs.length:=List.length_map _
   rw[List.length_append,h2]
   have h1:(List.map (fun a=>(a,(0:Int))) (List.flatMap atomsC p)).length≤17*p.length:=h1
   omega
  simp(disch:=first|omega|(simp only[zz];try omega;done)) only[↓reduceIte,go_sem]
  refine effS_call (.inr (.inr (.inr (.inr (.inr (.inr (.inr (.inr (.inr (.inl ⟨rfl,u6,_,stoodsF p fs,rfl,hw6,hsl,fun u7 h7 w7 s7 hw7=>⟨zz0,?_⟩⟩))))))))))
  have s67:=s6.trans0 s7
  have T7:=T1.step0 s67
  have t7l:=T7.1
  have sw:=T7.stepSets (l:=[.int .i64 (rpF [] (stoodsF p fs)).2.1,.int .i64 (rpF [] (stoodsF p fs)).2.2.1,.int .i64 (rpF [] (stoodsF p fs)).2.2.2]) rfl
  have T8:=T7.sets (l:=[.int .i64 (rpF [] (stoodsF p fs)).2.1,.int .i64 (rpF [] (stoodsF p fs)).2.2.1,.int .i64 (rpF [] (stoodsF p fs)).2.2.2]) rfl
  have X8: ∀σ:Env,σ 1= .slice fa fs.length fc→σ 2= .pointer (some ⟨h.size,0,none⟩)→σ 4= .pointer (some ⟨h.size+1,0,none⟩)→σ 5= .pointer (some ⟨h.size+2,0,none⟩)→BX u h p.length fs.length la fa lc fc σ u7 (hsets h7 h4.size 0 [.int .i64 (rpF [] (stoodsF p fs)).2.1,.int .i64 (rpF [] (stoodsF p fs)).2.2.1,.int .i64 (rpF [] (stoodsF p fs)).2.2.2]):=fun σ g1 g2 g4 g5=>((X5 σ g1 g2 g4 g5).go (σ':=σ) s67 (fun _ e=>e.elim) rfl rfl rfl rfl).go (σ':=σ) sw (fun j e=>by have e:j=h4.size:=e;omega) rfl rfl rfl rfl
  have iP:=hw7.mono sw.ge
  obtain⟨h8,hh8⟩: ∃h8,h8=hsets h7 h4.size 0 [.int .i64 (rpF [] (stoodsF p fs)).2.1,.int .i64 (rpF [] (stoodsF p fs)).2.2.1,.int .i64 (rpF [] (stoodsF p fs)).2.2.2]:=⟨_,rfl⟩
  rw[←hh8]at sw T8 X8 iP
  have t8l:=T8.1
  by_cases hr:(rpF [] (stoodsF p fs)).2=(0,0,0)
  ·have hr1:(rpF [] (stoodsF p fs)).2.1=0:=by rw[hr]
   simp(disch:=first|omega|(simp only[zz];try omega;done)) only[↓reduceIte,go_sem,fV,T7.2.1,T7.2.2.1,←hh8,T8.at,T8.2.1,eq_true hr1]
   exact rT6_ok ⟨hl,hf,hwp,hwf,hg⟩ (X8 _ (by simp [upd]) (by simp [upd]) (by simp [upd]) (by simp [upd])) (by simp [upd]) iP hr hK
  ·have hr1: ¬(rpF [] (stoodsF p fs)).2.1=0:=(rp_code (stoodsF p fs) []).resolve_left hr
   have hb':refF p fs=(core0,(rpF [] (stoodsF p fs)).2.1,(rpF [] (stoodsF p fs)).2.2.1,(rpF [] (stoodsF p fs)).2.2.2):=refF_rp hg hr
   have X9:=X8 (upd (upd (upd (upd env0 1 (.slice fa fs.length fc)) 2 (.pointer (some ⟨h.size,0,none⟩))) 4 (.pointer (some ⟨h.size+1,0,none⟩))) 5 (.pointer (some ⟨h.size+2,0,none⟩))) (by simp [upd]) (by simp [upd]) (by simp [upd]) (by simp [upd])
   obtain⟨H1,H2,hH1,hH2,kk,G1,R2,G2,sv⟩:=X9.out hb' hK
   have T9:=T8.step sv fun e=>by have e:h4.size=h.size+1:=e;omega
   have hR:=X9.R.2.1
   have hR2:=X9.R.2.2.1
   have rl:=X9.R.1
   have g1l:=G1.1
   have r2l:=R2.1
   have g2l:=G2.1
   have t9l:=T9.1
   rw[hH1]at T9 G1 hH2 g1l t9l
   rw[hH2]at kk R2 G2 r2l g2l
   simp(disch:=first|omega|(simp only[zz];try omega;done)) only[↓reduceIte,go_sem,fV,T7.2.1,T7.2.2.1,←hh8,T8.at,T8.2.1,eq_false hr1,rfBuild_E,hR,hR2,T9.at,T9.2.1,G1.2.1,G1.2.2.1,R2.at,R2.2.1,G2.at,G2.2.1]
   exact kk
 ·have hg1: ¬(gvF p fs).1=0:=(gv_code p fs).resolve_left hg
  have hb':refF p fs=(core0,(gvF p fs).1,(gvF p fs).2.1,(gvF p fs).2.2):=refF_gv hg
  have X9:=X5 (upd (upd (upd (upd env0 1 (.slice fa fs.length fc)) 2 (.pointer (some ⟨h.size,0,none⟩))) 4 (.pointer (some ⟨h.size+1,0,none⟩))) 5 (.pointer (some ⟨h.size+2,0,none⟩))) (by simp [upd]) (by simp [upd]) (by simp [upd]) (by simp [upd])
  obtain⟨H1,H2,hH1,hH2,kk,G1,R2,G2,sv⟩:=X9.out hb' hK
  have T9:=T1.step sv fun e=>by have e:h4.size=h.size+1:=e;omega
  have hR:=X9.R.2.1
  have hR2:=X9.R.2.2.1
  have rl:=X9.R.1
  have g1l:=G1.1
  have r2l:=R2.1
  have g2l:=G2.1
  have t9l:=T9.1
  rw[hH1]at T9 G1 hH2 g1l t9l
  rw[hH2]at kk R2 G2 r2l g2l
  simp(disch:=first|omega|(simp only[zz];try omega;done)) only[↓reduceIte,go_sem,fV,←hh5,T1.at,T1.2.1,eq_false hg1,rfBuild_E,hR,hR2,T9.at,T9.2.1,G1.2.1,G1.2.2.1,R2.at,R2.2.1,G2.at,G2.2.1]
  exact kk
end Go.Proofs.YtmjinnbdnpedcaaGreat
