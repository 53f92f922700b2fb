/- core: Build: names and values of the clauses; Build. -/
import Derived.Test.YtmjinnbdnpedcaaGreatKcN
namespace Edict
theorem namesT_len: ∀(l:List Atom) (ps:List Pred),(l.foldl namT ps).length≤ps.length+l.length
 |[],_=>Nat.le_refl _
 |a::l,ps=>by
  have h1:=namesT_len l (namT ps a)
  have h2:(namT ps a).length≤ps.length+1:=by unfold namT;split<;>simp
  simp only[List.foldl_cons,List.length_cons];omega
theorem takeF_cons(ps:List Pred)(cs:List Const)(c:Clause)(l:List Clause):takeF (ps,cs) (c::l)=match valF cs (termsC c)with
  |(cs',none)=>takeF ((atomsC c).foldl namT ps,cs') l
  |(cs',some t)=>(((atomsC c).foldl namT ps,cs'),some t):=rfl
theorem atomsC_few{c:Clause}(h:clauseW c=0):(atomsC c).length≤17:=by
 unfold clauseW at h
 split at h
 ·split at h
  ·cases h
  ·unfold atomsC atomsL
   have:=List.length_filter_le isA c.2
   simp only[List.length_cons,List.length_map];omega
 ·rename_i ha;exact absurd h ha
def midF(p:List Clause)(fs:List Atom)(ps:List Pred)(cs:List Const):Core×Flt:=match takeA cs fs with
 |(_,some t)=>(core0,6,1,t.2.2.2)
 |(cs',none)=>endF p fs (fs.foldl namT ps) cs'
end Edict
namespace Go.Proofs.YtmjinnbdnpedcaaGreat
open Go Go.Ev Edict
theorem bT6_ok {K:Value→H→Prop} {KP:List PanicEntry→H→Prop} {u0:U} {h0:H} {p:List Clause} {fs:List Atom} {la fa:Option Addr} {lc fc p2 p4 p5 b k:Nat} {σ:Env} {u:U} {h:H} {mp mc:Nat} {vP vC vR vF:Value} {ps:List Pred} {cs:List Const}
  (X:BCx u0 h0 p fs la fa lc fc p2 p4 p5 b k σ u h) (hl:IsSl u0 h0 (.slice la p.length lc) p) (hlf:IsSl u0 h0 (.slice fa fs.length fc) fs) (B:BSt k u h b mp mc vP vC vR vF ps cs [] [])
  (hps:ps.length≤65536) (hcs:cs.length≤65536) (hpl:p.length≤512) (hpc: ∀c∈p,clauseW c=0) (hpw: ∀c∈p,∀t∈termsC c,Rep.wf (cnst t)) (h8: ∀a∈fs,a.2.1.length≤8∧ ∀t∈a.2.1,Rep.wf (cnst t)) (hfl:fs.length≤4096)
  (hb:buildF p fs=midF p fs ps cs) (hK:Kb u0 h0 p fs K):wpS G_crBuild bT6 (retQ crBuild_E (callK K KP)) σ h:=by
 rw[bT6_cut]
 simp(disch:=first|omega|(simp only[zz];try omega;done)) only[go_sem,bT6,bT5,bT4,bT3,bT2,sS,sF,crBuild_S,X.e1,X.e8]
 have hnl:=namesT_len fs ps
 refine effS_call (gb_names ⟨k,u,b,mp,mc,_,vP,vC,vR,vF,fs,ps,cs,[],[],rfl,hlf.mono X.st.ge,B,by omega,X.lt.2.2.2.2.2.2.2.2.2.2,fun u1 h1 vP' s1 B1 b1=>⟨zz0,?_⟩⟩)
 simp(disch:=first|omega|(simp only[zz];try omega;done)) only[go_sem]
 exact bT7_ok (X.step s1 (fun j hj=>B.ge hj) _ (by simp [upd]) (by simp [upd]) (by simp [upd]) (by simp [upd]) (by simp [upd])) hl hlf B1 (by omega) hcs hpl hpc hpw h8 hfl hb hK
theorem bT5_ok {K:Value→H→Prop} {KP:List PanicEntry→H→Prop} {u0:U} {h0:H} {p:List Clause} {fs:List Atom} {la fa:Option Addr} {lc fc p2 p4 p5 b k:Nat} {σ:Env} {u:U} {h:H} {mp mc:Nat} {vP vC vR vF:Value}
  (X:BCx u0 h0 p fs la fa lc fc p2 p4 p5 b k σ u h) (hl:IsSl u0 h0 (.slice la p.length lc) p) (hlf:IsSl u0 h0 (.slice fa fs.length fc) fs) (B:BSt k u h b mp mc vP vC vR vF [] [] [] [])
  (hpl:p.length≤512) (hpc: ∀c∈p,clauseW c=0) (hpw: ∀c∈p,∀t∈termsC c,Rep.wf (cnst t)) (h8: ∀a∈fs,a.2.1.length≤8∧ ∀t∈a.2.1,Rep.wf (cnst t)) (hfl:fs.length≤4096)
  (hb:buildF p fs=match takeF ([],[]) p with
   |(_,some t)=>(core0,6,0,t.2.2.2)
   |((ps,cs),none)=>midF p fs ps cs) (hK:Kb u0 h0 p fs K):wpS G_crBuild bT5 (retQ crBuild_E (callK K KP)) σ h:=by
 have hm:=mlen'
 rw[bT5_cut]
 have hA:=X.A
 have hA1:=hA.1
 simp(disch:=first|omega|(simp only[zz];try omega;done)) only[↓reduceIte,go_sem,bT5,bT4,bT3,bT2,sS,sF,crBuild_S,X.e2,hA.at,hA.2.1]
 obtain⟨I,hI⟩: ∃I:Nat→Env→H→Prop,I=fun i σ' h'=>σ' 42= .slice la p.length lc∧σ' 43= .int .i64 p.length∧σ' 44= .int .i64 i∧i≤p.length∧
  ∃(u':U) (vPi vCi:Value) (pi:List Pred) (ci:List Const),BCx u0 h0 p fs la fa lc fc p2 p4 p5 b k σ' u' h'∧BSt k u' h' b mp mc vPi vCi vR vF pi ci [] []∧pi.length≤17*i∧ci.length≤65536∧takeF ([],[]) p=takeF (pi,ci) (p.drop i):=⟨_,rfl⟩
 refine wpS_loop I (fun i=>p.length - i) 0 (by
  rw[hI]
  exact⟨by simp [upd],by simp [upd],by simp [upd],Nat.zero_le _,u,vP,vC,[],[],X.step (S:=S0) (.refl _ _ _) (fun _ h=>h.elim) _ (by simp [upd]) (by simp [upd]) (by simp [upd]) (by simp [upd]) (by simp [upd]),B,Nat.zero_le _,Nat.zero_le _,rfl⟩) ?_
 clear B X hA hA1
 intro i σ h' hy
 rw[hI]at hy
 obtain⟨e42,e43,e44,hi,u',vPi,vCi,pi,ci,X,B,hpil,hcil,heq⟩:=hy
 by_cases hlt:i<p.length
 ·obtain⟨c,hs⟩: ∃c,p[i]? =some c:=⟨p[i],by simp [hlt]⟩
  have hdr:p.drop i=c::p.drop (i+1):=by
   obtain⟨hi',rfl⟩:=List.getElem?_eq_some_iff.1 hs
   exact List.drop_eq_getElem_cons hi'
  rw[hdr,takeF_cons]at heq
  have hmem:=List.mem_of_getElem? hs
  have hcW:=hpc c hmem
  have hcb:=clauseW_bulk hcW
  have hwc:=hpw c hmem
  have hac:=atomsC_few hcW
  obtain⟨hb1,hb2,hb3⟩:=clause_bulkT hcb
  obtain⟨pb,po,rfl,hpb,hpu,hpz,hpr⟩:=(hl.mono X.st.ge).row i c hs
  have hprs:=hpr
  rw[rep_clause]at hpr
  obtain⟨va,vb,hpr,hh,hbd⟩:=hpr
  obtain⟨ha,hc,rfl,-,-⟩:=hh.sl
  obtain⟨ba,bc,rfl,-,-⟩:=hbd.sl
  have hcells:=hpr
  simp only[sz_clause,hvs_4,List.cons.injEq,and_true]at hpr hpu hpz
  obtain⟨q0,q1,q2,q3⟩:=hpr
  rw[hcells]at hprs
  have sp:=Step.push0 S0 u' h' #[str c.1.1,.slice ha c.1.2.1.length hc,.int .i64 c.1.2.2,.slice ba c.2.length bc] 51
  have Y:Blk (ub u' h'.size 0) (h'.push (.cells #[str c.1.1,.slice ha c.1.2.1.length hc,.int .i64 c.1.2.2,.slice ba c.2.length bc] 51)) h'.size [str c.1.1,.slice ha c.1.2.1.length hc,.int .i64 c.1.2.2,.slice ba c.2.length bc]:=(Blk.mk (by simp only[e_psz];omega) (by simp(disch:=first|omega|(simp only[zz];try omega;done)) only[go_sem]) (by simp(disch:=first|omega|(simp only[zz];try omega;done)) only[go_sem]) (by repeat (first|(refine ub_at ?_;simp only[];done)|apply ub_zero)) (by simp(disch:=first|omega|(simp only[zz];try omega;done)) only[go_sem]))
  have Bp:=B.step sp (fun _ _ h=>h)
  have Xp:=X.step sp (fun _ h=>h.elim) σ rfl rfl rfl rfl rfl
  have hhp:=hh.mono sp.ge
  have hbp:=hbd.mono sp.ge
  have hrp:=Rep.mono sp.ge hprs
  simp(disch:=first|omega|(simp only[zz];try omega;done)) only[↓reduceIte,go_sem,crBuild_L1,e42,e43,e44,hlt,q0,q1,q2,q3]
  obtain⟨hp,hhp0⟩: ∃hp,hp=h'.push (.cells #[str c.1.1,.slice ha c.1.2.1.length hc,.int .i64 c.1.2.2,.slice ba c.2.length bc] 51):=⟨_,rfl⟩
  have hhs:hp.size=h'.size+1:=by rw[hhp0];simp only[e_psz]
  rw[←hhp0]at Y Bp Xp hhp hbp sp hrp ⊢
  clear hhp0
  have hyl:=Y.1
  have hyB: ¬BStB b mp mc vPi vCi vR vF h'.size:=fun hj=>by have:=B.lt hj;omega
  have hkh:=Xp.lt.2.2.2.2.2.2.2.2.2.2
  have hal:(atomsL c.2).length≤1048576:=by
   unfold atomsL
   rw[List.length_map]
   have:=List.length_filter_le isA c.2
   have:=bulkL_pos c.2
   omega
  have hnames: ∀(u6:U) (h6:H) (w:Value) (K':Value→H→Prop),Step S0 (ub u' h'.size 0) hp u6 h6→IsSl u6 h6 w (atomsC c)→(∀u8 h8 vP',Step (BStB b mp mc vPi vCi vR vF) (ub u' h'.size 0) hp u8 h8→BSt k u8 h8 b mp mc vP' vCi vR vF ((atomsC c).foldl namT pi) ci [] []→K' (.tuple #[]) h8)→C_bnames [.pointer (some ⟨b,0,none⟩),w] h6 K':=fun u6 h6 w K' s6 hw6 hK'=>
   ⟨k,u6,b,mp,mc,w,vPi,vCi,vR,vF,atomsC c,pi,ci,[],[],rfl,hw6,Bp.step s6 (fun _ _ h=>h),by omega,by have:=s6.ge.sz;omega,fun u8 h8 vP' s8 B8 b8=>hK' u8 h8 vP' ((s6.mono fun _ _ h=>h.elim).trans s8 (fun _ _ h=>h)) B8⟩
  refine w_join (fun σ' h2=>keepE σ σ' [1,2,4,5,8,42,43,44]∧σ' 10= .pointer (some ⟨h'.size,0,none⟩)∧ ∃(u2:U) (vP2:Value),Step (BStB b mp mc vPi vCi vR vF) (ub u' h'.size 0) hp u2 h2∧BSt k u2 h2 b mp mc vP2 vCi vR vF ((atomsC c).foldl namT pi) ci [] []) ?_ ?_
  ·have o1:=own_one (k:=hp.size) (a:=c.1) 48 (Nat.le_refl _) (show Rep.rep (ub u' h'.size 0) hp c.1 [str c.1.1,.slice ha c.1.2.1.length hc,.int .i64 c.1.2.2] by rw[rep_atom];exact⟨_,rfl,hhp⟩)
   have s1:=Step.push S0 (ub u' h'.size 0) hp #[str c.1.1,.slice ha c.1.2.1.length hc,.int .i64 c.1.2.2] 48 3
   have Y1:=Y.step0 s1
   have hy1:=Y1.1
   simp(disch:=first|omega|(simp only[zz];try omega;done)) only[↓reduceIte,go_sem,w_both,X.e8,e42,e43,e44,Y.at,Y.2.1]
   refine⟨effS_call (gb_atoms ⟨_,_,c.2,rfl,hbp.mono s1.ge,hb1,fun u5 h5 w s5 hw5=>⟨zz0,?_⟩⟩),effS_call (gb_atoms ⟨_,_,c.2,rfl,hbp,hb1,fun u5 h5 w s5 hw5=> ?_⟩)⟩
   ·have o5:=o1.step0 s5
    have s15:=s1.trans0 s5
    simp(disch:=first|omega|(simp only[zz];try omega;done)) only[↓reduceIte,go_sem]
    refine effS_app o5 hw5 rfl rfl s15.ge.sz (by simp only[List.length_singleton];omega) fun a6 n6 c6 u6 h6 o6 s6=>⟨zz0,?_⟩
    have s16:Step S0 (ub u' h'.size 0) hp u6 h6:=s15.trans s6 (fun j hj hB=>by have:=o5.ge hB;omega)
    simp(disch:=first|omega|(simp only[zz];try omega;done)) only[↓reduceIte,go_sem,X.e8]
    refine effS_call (gb_names (hnames u6 h6 _ _ s16 o6.isSl fun u8 h8 vP' s8 B8=>⟨zz0,?_⟩))
    simp(disch:=first|omega|(simp only[zz];try omega;done)) only[↓reduceIte,go_sem,X.e8,e42,e43,e44]
    exact⟨_,s8,_,B8⟩
   ·have Y5:=Y.step0 s5
    have hy5:=Y5.1
    refine⟨by simp(disch:=first|omega|(simp only[zz];try omega;done)) only[↓reduceIte,go_sem,Y.at,Y5.at,Y5.2.1],?_⟩
    have o5:=own_one (k:=hp.size) (a:=c.1) 48 s5.ge.sz (show Rep.rep u5 h5 c.1 [str c.1.1,.slice ha c.1.2.1.length hc,.int .i64 c.1.2.2] by rw[rep_atom];exact⟨_,rfl,hhp.mono s5.ge⟩)
    have s5b:=Step.push S0 u5 h5 #[str c.1.1,.slice ha c.1.2.1.length hc,.int .i64 c.1.2.2] 48 3
    have s15:=s5.trans0 s5b
    simp(disch:=first|omega|(simp only[zz];try omega;done)) only[↓reduceIte,go_sem]
    refine effS_app o5 (hw5.mono s5b.ge) rfl rfl s15.ge.sz (by simp only[List.length_singleton];omega) fun a6 n6 c6 u6 h6 o6 s6=>⟨zz0,?_⟩
    have s16:Step S0 (ub u' h'.size 0) hp u6 h6:=s15.trans s6 (fun j hj hB=>by have:=o5.ge hB;omega)
    simp(disch:=first|omega|(simp only[zz];try omega;done)) only[↓reduceIte,go_sem,X.e8]
    refine effS_call (gb_names (hnames u6 h6 _ _ s16 o6.isSl fun u8 h8 vP' s8 B8=>⟨zz0,?_⟩))
    simp(disch:=first|omega|(simp only[zz];try omega;done)) only[↓reduceIte,go_sem,X.e8,e42,e43,e44]
    exact⟨_,s8,_,B8⟩
  ·rintro σ' h2 ⟨hkE,e10,u2,vP2,s2,B2⟩
   simp(disch:=first|omega|(simp only[zz];try omega;done)) only[go_sem,X.e1,X.e2,X.e4,X.e5,X.e8,e42,e43,e44]at hkE
   obtain⟨k1,k2,k4,k5,k8,k42,k43,k44⟩:=hkE
   have Y2:=Y.step s2 hyB
   have hy2:=Y2.1
   have X2:=Xp.step s2 (fun j hj=>B.ge hj) σ' (by rw[k1,X.e1]) (by rw[k2,X.e2]) (by rw[k4,X.e4]) (by rw[k5,X.e5]) (by rw[k8,X.e8])
   have hr2:=Rep.mono s2.ge hrp
   have hnl:=namesT_len (atomsC c) pi
   simp(disch:=first|omega|(simp only[zz];try omega;done)) only[↓reduceIte,go_sem,e10,Y2.at,Y2.2.1]
   refine effS_call (gb_all ⟨u2,c,_,rfl,hr2,hcb,fun u3 h3 w s3 hw3=>⟨zz0,?_⟩⟩)
   have B3:=B2.step s3 (fun _ _ h=>h)
   have X3:=X2.step s3 (fun _ h=>h.elim) σ' rfl rfl rfl rfl rfl
   simp(disch:=first|omega|(simp only[zz];try omega;done)) only[↓reduceIte,go_sem,k8]
   refine effS_call (gb_values ⟨k,u3,b,mp,mc,_,vP2,vCi,vR,vF,termsC c,_,ci,[],[],rfl,hw3,B3,hcil,X3.lt.2.2.2.2.2.2.2.2.2.2,hwc,fun u4 h4 vj s4 B4 b4 l4=>⟨zz0,?_⟩⟩)
   have X4:=X3.step s4 (fun j hj=>B3.ge hj) σ' rfl rfl rfl rfl rfl
   have sq:=Step.push0 S0 u4 h4 (Term.enc ((valF ci (termsC c)).2.getD term0)).toArray 56
   have B5:=B4.step sq (fun _ _ h=>h)
   have X5:=X4.step sq (fun _ h=>h.elim) σ' rfl rfl rfl rfl rfl
   generalize hvr:valF ci (termsC c)=r at heq B4 B5 l4 sq X5 ⊢
   obtain⟨cj,ot⟩:=r
   cases ot with
   |none=>
    simp only[Option.getD_none,Option.isSome_none,Term.enc,term0]at heq sq X5 B5 l4 ⊢
    simp(disch:=first|omega|(simp only[zz];try omega;done)) only[↓reduceIte,go_sem,k44]
    refine⟨i+1,?_,by omega⟩
    rw[hI]
    exact⟨by simp [upd,k42],by simp [upd,k43],by simp [upd],hlt,_,vP2,vj,_,cj,X5.step (S:=S0) (.refl _ _ _) (fun _ h=>h.elim) _ (by simp [upd]) (by simp [upd]) (by simp [upd]) (by simp [upd]) (by simp [upd]),B5,by omega,l4,heq⟩
   |some t=>
    simp only[Option.getD_some,Option.isSome_some,Term.enc]at heq sq X5 B5 l4 ⊢
    rw[heq]at hb
    simp only at hb
    have E:=err_ok X4 hb hK
    have C3:=X4.C
    have F3:=X4.F
    have hc3:=C3.1
    have hf3:=F3.1
    simp(disch:=first|omega|(simp only[zz];try omega;done)) only[↓reduceIte,go_sem,k4,k5,C3.2.1,C3.2.2.1]
    generalize hXe:hsets h4 p4 0 [.slice none 0 0,.slice none 0 0,.slice none 0 0,.slice none 0 0]=hX at E ⊢
    obtain⟨y1,y2,y3,y4,y5,y6,y7,y8,y9,y10,y11,y12⟩:=E
    have y60:=y6 0 (by omega)
    have y61:=y6 1 (by omega)
    have y62:=y6 2 (by omega)
    have y63:=y6 3 (by omega)
    simp(disch:=first|omega|(simp only[zz];try omega;done)) only[↓reduceIte,go_sem,k4,k5,crBuild_E,y3,y4,y5,y60,y61,y62,y63,y7,y8,y9]
    exact y12 _ _ (Step.push0 S0 _ _ _ _)
 ·obtain rfl:i=p.length:=by omega
  rw[List.drop_length]at heq
  have heq:takeF ([],[]) p=((pi,ci),none):=heq
  rw[heq]at hb
  simp only at hb
  simp(disch:=first|omega|(simp only[zz];try omega;done)) only[↓reduceIte,go_sem,crBuild_L1,e43,e44]
  exact bT6_ok (X.step (S:=S0) (.refl _ _ _) (fun _ h=>h.elim) _ (by simp [upd]) (by simp [upd]) (by simp [upd]) (by simp [upd]) (by simp [upd])) hl hlf B (by omega) hcil hpl hpc hpw h8 hfl hb hK
end Go.Proofs.YtmjinnbdnpedcaaGreat
