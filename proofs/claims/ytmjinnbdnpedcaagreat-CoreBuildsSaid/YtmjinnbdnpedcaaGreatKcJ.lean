/- core: rule. -/
import Derived.Test.YtmjinnbdnpedcaaGreatKcI
namespace Edict
theorem posF_cons(ps:List Pred)(cs:List Const)(vs:Strs)(l:Literal)(r:List Literal):posF ps cs vs (l::r)=if l.1=1 then(pids ps l.2.1.1,slotsP cs vs l.2.1.2.1)::posF ps cs (varL vs l) r else posF ps cs vs r:=rfl
theorem posF_len(ps:List Pred)(cs:List Const): ∀(l:List Literal) (vs:Strs),(posF ps cs vs l).length≤l.length
 |[],_=>Nat.le_refl _
 |x::l,vs=>by
  rw[posF_cons]
  split
  ·have:=posF_len ps cs l (varL vs x);simp only[List.length_cons];omega
  ·have:=posF_len ps cs l vs;simp only[List.length_cons];omega
end Edict
namespace Go.Ev
open Go Edict
theorem set7{h:H}{b:Nat}{v0 v1 v2 v3 v4 v5 v6:Value}(hz:hsz h b=7):hsz (hsets h b 0 [v0,v1,v2,v3,v4,v5,v6]) b=7∧Go.Ev.hv (hsets h b 0 [v0,v1,v2,v3,v4,v5,v6]) b 0=v0∧Go.Ev.hv (hsets h b 0 [v0,v1,v2,v3,v4,v5,v6]) b 1=v1∧Go.Ev.hv (hsets h b 0 [v0,v1,v2,v3,v4,v5,v6]) b 2=v2∧Go.Ev.hv (hsets h b 0 [v0,v1,v2,v3,v4,v5,v6]) b 3=v3∧
  Go.Ev.hv (hsets h b 0 [v0,v1,v2,v3,v4,v5,v6]) b 4=v4∧Go.Ev.hv (hsets h b 0 [v0,v1,v2,v3,v4,v5,v6]) b 5=v5∧Go.Ev.hv (hsets h b 0 [v0,v1,v2,v3,v4,v5,v6]) b 6=v6:=by
 have hl:0+[v0,v1,v2,v3,v4,v5,v6].length≤hsz h b:=by rw[hz];simp
 refine⟨by rw[hsets_hsz,hz],?_,?_,?_,?_,?_,?_,?_⟩<;>(rw[hsets_hv _ _ _ _ _ hl];simp)
theorem two_terms(u:U)(h:H)(a b:Term)(e:TypeId):IsSl (ub u h.size 8) (h.push (.cells #[.int .i64 a.1,.int .i64 a.2.1,str a.2.2.1,.int .i64 a.2.2.2,.int .i64 b.1,.int .i64 b.2.1,str b.2.2.1,.int .i64 b.2.2.2] e)) (.slice (some ⟨h.size,0,none⟩) 2 2) [a,b]:=
 (Own.made (k:=0) (α:=Term) u h (Nat.zero_le _) e [a,b] (Term.enc a++Term.enc b) rfl (by simp only[List.length_cons,List.length_nil];decide) (fun i x hx=>by
  match i with
  |0=>cases hx;rw[rep_term];rfl
  |1=>cases hx;rw[rep_term];rfl
  |i+2=>simp at hx)).isSl
end Go.Ev
namespace Go.Proofs.YtmjinnbdnpedcaaGreat
open Go Go.Ev Edict
theorem BSt.lt{k:Nat}{u:U}{h:H}{b mp mc:Nat}{vP vC vR vF:Value}{ps:List Pred}{cs:List Const}{rs:List Rule}{fs:List Row}(B:BSt k u h b mp mc vP vC vR vF ps cs rs fs){i:Nat}(hi:BStB b mp mc vP vC vR vF i):i<h.size:=by
 rcases hi with rfl|rfl|rfl|hi|hi|hi|hi
 ·exact B.blk.1
 ·exact B.mP.lt
 ·exact B.mC.lt
 ·exact B.oP.lt hi
 ·exact B.oC.lt hi
 ·exact B.oR.lt hi
 ·exact B.oF.lt hi
theorem Step.fresh{S:Nat→Prop}{u u1 u2:U}{h h1 h2:H}(a:Step S0 u h u1 h1)(s:Step S u1 h1 u2 h2)(hn: ∀i,S i→h.size≤i):Step S0 u h u2 h2:=a.trans s fun i hi hs=>by have:=hn i hs;omega
def C_rule(vs:List Value)(h:H)(K:Value→H→Prop):Prop:= ∃(k:Nat) (u:U) (b mp mc:Nat) (v vP vC vR vF:Value) (ls:List Literal) (ps:List Pred) (cs:List Const) (rs:List Rule) (fs:List Row),
 vs=[.pointer (some ⟨b,0,none⟩),v]∧IsSl u h v ls∧BSt k u h b mp mc vP vC vR vF ps cs rs fs∧bulkL ls≤1048576∧(∀x∈ls,∀t∈termsL x,Rep.wf (cnst t))∧
 ∀u' h' mv n l,Step S0 u h u' h'→Rep.rep u' h' (ruleF ps cs (0,[]) 0 ls) l→MapB h' mv (lastL (varsF ls)) n→n≤(varsF ls).length→h.size≤mv→K (.tuple #[.agg l.toArray,.map (some mv)]) h'
def G_crRule:Ctr:=fun f vs h K _=>(f=56∧C_vars vs h K)∨(f=28∧C_slots vs h K)
theorem G_crRule_ok:GOk Tryz.prog G_crRule:=by
 rintro f vs h K KP (⟨rfl,hC⟩|⟨rfl,hC⟩)
 ·exact crVars_ok hC
 ·exact crSlots_ok hC
theorem crRule_ok{vs:List Value}{h:H}{K:Value→H→Prop}{KP:List PanicEntry→H→Prop}(hC:C_rule vs h K):HCX Tryz.prog 27 vs h K KP:=by
 obtain⟨k,u,b,mp,mc,v,vP,vC,vR,vF,ls,ps,cs,rs,fs,rfl,hl,B,hbk,hwf,hK⟩:=hC
 obtain⟨la,lc,rfl,q1,q2⟩:=hl.sl
 have hm:=mlen'
 have htb:=tot_bulk ls
 have hll:=bulkL_pos ls
 refine crRule_H G_crRule G_crRule_ok _ _ ?_
 simp(disch:=first|omega|(simp only[zz];try omega;done)) only[↓reduceIte,go_sem,crRule_S,crRule_E]
 have s0:=Step.push0 S0 u h #[.int .i64 0,.slice none 0 0,.slice none 0 0,.slice none 0 0,.slice none 0 0,.slice none 0 0,.int .i64 0] 79
 have P0:Blk (ub u h.size 0) (h.push (.cells #[.int .i64 0,.slice none 0 0,.slice none 0 0,.slice none 0 0,.slice none 0 0,.slice none 0 0,.int .i64 0] 79)) h.size [.int .i64 0,.slice none 0 0,.slice none 0 0,.slice none 0 0,.slice none 0 0,.slice none 0 0,.int .i64 0]:=(Blk.mk (by simp only[e_psz];omega) (by simp(disch:=first|omega|(simp only[zz];try omega;done)) only[go_sem]) (by simp(disch:=first|omega|(simp only[zz];try omega;done)) only[go_sem]) (by repeat (first|(refine ub_at ?_;simp only[];done)|apply ub_zero)) (by simp(disch:=first|omega|(simp only[zz];try omega;done)) only[go_sem]))
 refine effS_call (.inl ⟨rfl,ub u h.size 0,_,ls,rfl,hl.mono s0.ge,hbk,fun u1 h1 vV s1 hvV=>⟨zz0,?_⟩⟩)
 obtain⟨va,vc,rfl,-,-⟩:=hvV.sl
 have st1:=s0.trans0 s1
 have P1:=P0.step0 s1
 simp(disch:=first|omega|(simp only[zz];try omega;done)) only[↓reduceIte,go_sem]
 have s2:=Step.push0 S0 u1 h1 #[.int .i64 0,.slice none 0 0,.slice none 0 0,.slice none 0 0,.slice none 0 0,.slice va (varsF ls).length vc,.int .i64 0] 79
 have R2:Blk (ub u1 h1.size 0) (h1.push (.cells #[.int .i64 0,.slice none 0 0,.slice none 0 0,.slice none 0 0,.slice none 0 0,.slice va (varsF ls).length vc,.int .i64 0] 79)) h1.size [.int .i64 0,.slice none 0 0,.slice none 0 0,.slice none 0 0,.slice none 0 0,.slice va (varsF ls).length vc,.int .i64 0]:=(Blk.mk (by simp only[e_psz];omega) (by simp(disch:=first|omega|(simp only[zz];try omega;done)) only[go_sem]) (by simp(disch:=first|omega|(simp only[zz];try omega;done)) only[go_sem]) (by repeat (first|(refine ub_at ?_;simp only[];done)|apply ub_zero)) (by simp(disch:=first|omega|(simp only[zz];try omega;done)) only[go_sem]))
 refine effS_mkm (ub u1 h1.size 0) fun u3 h3 s3 m3=>⟨zz0,?_⟩
 rw[show(fun _=>none:List UInt8→Option Int)=lastL []from by funext s;simp [lastL]]at m3
 have R3:=R2.step0 s3
 have s4:=Step.push0 S0 u3 h3 #[.int .i64 0] 3
 have N4:Blk (ub u3 h3.size 0) (h3.push (.cells #[.int .i64 0] 3)) h3.size [.int .i64 0]:=(Blk.mk (by simp only[e_psz];omega) (by simp(disch:=first|omega|(simp only[zz];try omega;done)) only[go_sem]) (by simp(disch:=first|omega|(simp only[zz];try omega;done)) only[go_sem]) (by repeat (first|(refine ub_at ?_;simp only[];done)|apply ub_zero)) (by simp(disch:=first|omega|(simp only[zz];try omega;done)) only[go_sem]))
 have R4:=R3.step0 s4
 have m4:=m3.step s4 (fun h=>h)
 have P4:=((P1.step0 s2).step0 s3).step0 s4
 have st4:=(((st1.trans0 s2).trans0 s3).trans0 s4)
 have hvV4:=((hvV.mono s2.ge).mono s3.ge).mono s4.ge
 have c1:=P0.1
 have c2:=s1.ge.sz
 have c3:=m3.lt
 simp only[e_psz]at c1 c2 m3 m4 c3
 obtain⟨pr,hpr⟩: ∃pr,pr=h1.size:=⟨_,rfl⟩
 obtain⟨mv,hmv⟩: ∃mv,mv=h1.size+1:=⟨_,rfl⟩
 obtain⟨nx,hnx⟩: ∃nx,nx=h3.size:=⟨_,rfl⟩
 obtain⟨p0,hp0⟩: ∃p0,p0=h.size:=⟨_,rfl⟩
 rw[←hmv]at m4
 simp(disch:=first|omega|(simp only[zz];try omega;done)) only[↓reduceIte,go_sem]
 obtain⟨hc,hhc⟩: ∃hc,hc=h3.push (.cells #[.int .i64 0] 3):=⟨_,rfl⟩
 obtain⟨uc,huc⟩: ∃uc,uc=ub u3 h3.size 0:=⟨_,rfl⟩
 rw[←hhc,←huc]at N4 R4 P4 st4 hvV4
 rw[←hhc]at m4
 rw[←hnx]at N4
 rw[←hpr]at R4
 rw[←hp0]at P4
 rw[←hhc]
 obtain⟨I,hI⟩: ∃I:Nat→Env→H→Prop,I=fun i σ h'=>σ 0= .pointer (some ⟨b,0,none⟩)∧σ 1= .slice la ls.length lc∧σ 4= .pointer (some ⟨p0,0,none⟩)∧σ 6= .pointer (some ⟨pr,0,none⟩)∧σ 7= .map (some mv)∧σ 8= .pointer (some ⟨nx,0,none⟩)∧σ 18= .slice la ls.length lc∧σ 19= .int .i64 ls.length∧σ 20= .int .i64 i∧i≤ls.length∧
  ∃(u':U) (vA:Value) (n:Nat) (acc:List Pattern),Step S0 u h u' h'∧Own h.size u' h' vA acc∧Blk u' h' pr [.int .i64 0,.slice none 0 0,vA,.slice none 0 0,.slice none 0 0,.slice va (varsF ls).length vc,.int .i64 0]∧
   Blk u' h' p0 [.int .i64 0,.slice none 0 0,.slice none 0 0,.slice none 0 0,.slice none 0 0,.slice none 0 0,.int .i64 0]∧Blk u' h' nx [.int .i64 (varsF (ls.take i)).length]∧MapB h' mv (lastL (varsF (ls.take i))) n∧n≤(varsF (ls.take i)).length∧
   IsSl u' h' (.slice va (varsF ls).length vc) (varsF ls)∧(∀j,OwnB vA j→j≠pr∧j≠p0∧j≠nx∧j≠mv)∧posF ps cs [] ls=acc++posF ps cs (varsF (ls.take i)) (ls.drop i)∧acc.length≤i:=⟨_,rfl⟩
 refine wpS_loop I (fun i=>ls.length - i) 0 (by
  rw[hI]
  exact⟨by simp [upd],by simp [upd],by simp [upd,hp0],by simp [upd,hpr],by simp [upd,hmv],by simp [upd,hnx],by simp [upd],by simp [upd],by simp [upd],Nat.zero_le _,uc,_,0,[],st4,.nil _ _ _,R4,P4,N4,m4,Nat.zero_le _,hvV4,fun j hj=>absurd hj ownb_none,rfl,Nat.le_refl _⟩) ?_
 have hdis:h.size≤p0∧h.size≤pr∧h.size≤mv∧h.size≤nx∧pr≠p0∧pr≠mv∧pr≠nx∧p0≠mv∧p0≠nx∧mv≠nx:=by omega
 clear N4 R4 P4 st4 hvV4 m4 hhc huc hc uc R3 R2 P1 P0 m3 s4 s3 s2 s1 s0 st1 hvV c1 c2 c3 hpr hmv hnx hp0 h1 h3
 intro i σ h' hy
 rw[hI]at hy
 obtain⟨e0,e1,e4,e6,e7,e8,e18,e19,e20,hi,u',vA,n,acc,st,ho,R,P,N,hM,hnv,hvV,hnA,hF,hal⟩:=hy
 have B':=B.step st (fun _ _ h=>h)
 obtain⟨z1,z2,z3,z4,z5,z6,z7,z8,z9⟩:=B'.open
 have hrl:=R.1
 have hpl:=P.1
 have hnl:=N.1
 by_cases hlt:i<ls.length
 ·obtain⟨x,hs⟩: ∃x,ls[i]? =some x:=⟨ls[i],by simp [hlt]⟩
  have hdr:ls.drop i=x::ls.drop (i+1):=by
   obtain⟨hi',rfl⟩:=List.getElem?_eq_some_iff.1 hs
   exact List.drop_eq_getElem_cons hi'
  have hsn:varsF (ls.take (i+1))=varL (varsF (ls.take i)) x:=fold_snoc hs
  rw[hdr,posF_cons]at hF
  have hwx:=hwf x (List.mem_of_getElem? hs)
  obtain⟨pb,po,rfl,hpb,hpu,hpz,hpr⟩:=(hl.mono st.ge).row i x hs
  rw[rep_literal]at hpr
  obtain⟨pv,hpr,hpv⟩:=hpr
  obtain⟨pva,pvc,rfl,r1,r2⟩:=hpv.sl
  simp only[Term.enc,sz_literal,hvs_14,List.cons_append,List.nil_append,List.cons.injEq,and_true]at hpr hpu hpz
  obtain⟨l0,l1,l2,l3,l4,l5,l6,l7,l8,l9,l10,l11,l12,l13⟩:=hpr
  have sp:=Step.push0 S0 u' h' #[.int .i64 x.1,str x.2.1.1,.slice pva x.2.1.2.1.length pvc,.int .i64 x.2.1.2.2,.int .i64 x.2.2.1,.int .i64 x.2.2.2.1.1,.int .i64 x.2.2.2.1.2.1,str x.2.2.2.1.2.2.1,.int .i64 x.2.2.2.1.2.2.2,.int .i64 x.2.2.2.2.1.1,.int .i64 x.2.2.2.2.1.2.1,str x.2.2.2.2.1.2.2.1,.int .i64 x.2.2.2.2.1.2.2.2,.int .i64 x.2.2.2.2.2] 119
  have Y:Blk (ub u' h'.size 0) (h'.push (.cells #[.int .i64 x.1,str x.2.1.1,.slice pva x.2.1.2.1.length pvc,.int .i64 x.2.1.2.2,.int .i64 x.2.2.1,.int .i64 x.2.2.2.1.1,.int .i64 x.2.2.2.1.2.1,str x.2.2.2.1.2.2.1,.int .i64 x.2.2.2.1.2.2.2,.int .i64 x.2.2.2.2.1.1,.int .i64 x.2.2.2.2.1.2.1,str x.2.2.2.2.1.2.2.1,.int .i64 x.2.2.2.2.1.2.2.2,.int .i64 x.2.2.2.2.2] 119)) h'.size
   [.int .i64 x.1,str x.2.1.1,.slice pva x.2.1.2.1.length pvc,.int .i64 x.2.1.2.2,.int .i64 x.2.2.1,.int .i64 x.2.2.2.1.1,.int .i64 x.2.2.2.1.2.1,str x.2.2.2.1.2.2.1,.int .i64 x.2.2.2.1.2.2.2,.int .i64 x.2.2.2.2.1.1,.int .i64 x.2.2.2.2.1.2.1,str x.2.2.2.2.1.2.2.1,.int .i64 x.2.2.2.2.1.2.2.2,.int .i64 x.2.2.2.2.2]:=(Blk.mk (by simp only[e_psz];omega) (by simp(disch:=first|omega|(simp only[zz];try omega;done)) only[go_sem]) (by simp(disch:=first|omega|(simp only[zz];try omega;done)) only[go_sem]) (by repeat (first|(refine ub_at ?_;simp only[];done)|apply ub_zero)) (by simp(disch:=first|omega|(simp only[zz];try omega;done)) only[go_sem]))
  have Bp:=B'.step sp (fun _ _ h=>h)
  have op:=ho.step0 sp
  have Rp:=R.step0 sp
  have Pp:=P.step0 sp
  have Np:=N.step0 sp
  have Mp:=hM.step sp (fun h=>h)
  have hvp:=hvV.mono sp.ge
  have stp:=st.trans0 sp
  by_cases hk:x.1=1
  ·have hta:termsL x=x.2.1.2.1:=by unfold termsL;rw[if_pos (.inl hk)];rfl
   rw[hta]at hwx
   rw[if_pos hk]at hF
   have hvx:varsF (ls.take (i+1))=x.2.1.2.1.foldl varT (varsF (ls.take i)):=by rw[hsn];unfold varL;rw[if_pos hk]
   have hil:(varsF (ls.take i)).length+x.2.1.2.1.length≤1048576:=by
    have h1:=varsL_len (ls.take i) []
    have h2:=tot_take hs
    unfold varsF argN at*
    simp only[List.length_nil]at h1
    omega
   obtain⟨vi,hvi⟩: ∃vi,vi=varsF (ls.take i):=⟨_,rfl⟩
   rw[←hvi]at Np Mp hnv hF hvx hil
   have hslots: ∀(K':Value→H→Prop),(∀u5 h5 (wa:Option Addr) (wc n5:Nat),Step (fun j=>j=mv∨j=nx) (ub u' h'.size 0) (h'.push (.cells #[.int .i64 x.1,str x.2.1.1,.slice pva x.2.1.2.1.length pvc,.int .i64 x.2.1.2.2,.int .i64 x.2.2.1,.int .i64 x.2.2.2.1.1,.int .i64 x.2.2.2.1.2.1,str x.2.2.2.1.2.2.1,.int .i64 x.2.2.2.1.2.2.2,.int .i64 x.2.2.2.2.1.1,.int .i64 x.2.2.2.2.1.2.1,str x.2.2.2.2.1.2.2.1,.int .i64 x.2.2.2.2.1.2.2.2,.int .i64 x.2.2.2.2.2] 119)) u5 h5→
     IsSl u5 h5 (.slice wa (slotsP cs vi x.2.1.2.1).length wc) (slotsP cs vi x.2.1.2.1)→MapB h5 mv (lastL (varsF (ls.take (i+1)))) n5→n5≤(varsF (ls.take (i+1))).length→Blk u5 h5 nx [.int .i64 (varsF (ls.take (i+1))).length]→K' (.slice wa (slotsP cs vi x.2.1.2.1).length wc) h5)→
     C_slots [.pointer (some ⟨b,0,none⟩),.slice pva x.2.1.2.1.length pvc,.map (some mv),.pointer (some ⟨nx,0,none⟩),.bool true] (h'.push (.cells #[.int .i64 x.1,str x.2.1.1,.slice pva x.2.1.2.1.length pvc,.int .i64 x.2.1.2.2,.int .i64 x.2.2.1,.int .i64 x.2.2.2.1.1,.int .i64 x.2.2.2.1.2.1,str x.2.2.2.1.2.2.1,.int .i64 x.2.2.2.1.2.2.2,.int .i64 x.2.2.2.2.1.1,.int .i64 x.2.2.2.2.1.2.1,str x.2.2.2.2.1.2.2.1,.int .i64 x.2.2.2.2.1.2.2.2,.int .i64 x.2.2.2.2.2] 119)) K':=fun K' hK'=>
    ⟨k,ub u' h'.size 0,b,mp,mc,mv,nx,n,_,vP,vC,vR,vF,x.2.1.2.1,ps,cs,rs,fs,vi,true,rfl,hpv.mono sp.ge,Bp,Mp,hnv,hwx,by omega,fun _=>⟨Np,hdis.2.2.2.2.2.2.2.2.2,fun hj=>by have:=B.lt hj;omega,fun hj=>by have:=B.lt hj;omega⟩,fun u5 h5 w n5 s5 o5 m5 l5 b5=>by
     have o5:Own _ u5 h5 w (slotsP cs vi x.2.1.2.1):=o5
     obtain⟨wa,wc,rfl,-,-⟩:=o5.sl
     have b5:=b5 rfl
     have hsv:slV true vi x.2.1.2.1=varsF (ls.take (i+1)):=hvx.symm
     rw[hsv]at m5 l5 b5
     exact hK' u5 h5 wa wc n5 (s5.mono fun j _ hj=>hj.2) o5.isSl m5 l5 b5⟩
   simp(disch:=first|omega|(simp only[zz];try omega;done)) only[↓reduceIte,go_sem,crRule_L1,e18,e19,e20,hlt,l0,l1,l2,l3,l4,l5,l6,l7,l8,l9,l10,l11,l12,l13,eq_true hk]
   refine w_join (fun σ' h2=>keepE σ σ' [0,1,4,6,7,8,18,19,20]∧ ∃(u2:U) (vB:Value) (n2:Nat),Step S0 u h u2 h2∧Own h.size u2 h2 vB (acc++[(pids ps x.2.1.1,slotsP cs vi x.2.1.2.1)])∧Blk u2 h2 pr [.int .i64 0,.slice none 0 0,vB,.slice none 0 0,.slice none 0 0,.slice va (varsF ls).length vc,.int .i64 0]∧
    Blk u2 h2 p0 [.int .i64 0,.slice none 0 0,.slice none 0 0,.slice none 0 0,.slice none 0 0,.slice none 0 0,.int .i64 0]∧Blk u2 h2 nx [.int .i64 (varsF (ls.take (i+1))).length]∧MapB h2 mv (lastL (varsF (ls.take (i+1)))) n2∧n2≤(varsF (ls.take (i+1))).length∧
    IsSl u2 h2 (.slice va (varsF ls).length vc) (varsF ls)∧(∀j,OwnB vB j→j≠pr∧j≠p0∧j≠nx∧j≠mv)) ?_ ?_
   ·simp(disch:=first|omega|(simp only[zz];try omega;done)) only[↓reduceIte,go_sem,w_both,e0,e1,e4,e6,e7,e8,e18,e19,e20,z1,z7,R.at,R.2.1]
    have hpid:(posL (ps.map (·.1)) x.2.1.1).getD 0=pids ps x.2.1.1:=rfl
    have hlA:=posF_len ps cs ls []
    rw[hF]at hlA
    simp only[List.length_append,List.length_cons]at hlA
    refine⟨effS_look Bp.mP ⟨by simp(disch:=first|omega|(simp only[zz];try omega;done)) only[↓reduceIte,go_sem,e6,R.2.1],?_⟩,effS_call (.inr ⟨rfl,hslots _ fun u5 h5 wa wc n5 s5 i5 m5 l5 b5=> ?_⟩)⟩
    rw[hpid]
    simp only[lookV,Bool.false_eq_true,if_false]
    simp(disch:=first|omega|(simp only[zz];try omega;done)) only[↓reduceIte,go_sem,e0,e7,e8]
    refine effS_call (.inr ⟨rfl,hslots _ fun u5 h5 wa wc n5 s5 i5 m5 l5 b5=> ?_⟩)
    have R5:=Rp.step s5 (fun e=>e.elim (fun e=>hdis.2.2.2.2.2.1 e) (fun e=>hdis.2.2.2.2.2.2.1 e))
    have P5:=Pp.step s5 (fun e=>e.elim (fun e=>hdis.2.2.2.2.2.2.2.1 e) (fun e=>hdis.2.2.2.2.2.2.2.2.1 e))
    have o5:=op.step s5 (fun j hj e=>e.elim (fun e=>(hnA j hj).2.2.2 e) (fun e=>(hnA j hj).2.2.1 e))
    have B5:=Bp.step s5 (fun j hj e=>by have:=B.lt hj;omega)
    have Y5:=Y.step s5 (fun e=>by have:=hM.lt;omega)
    have st5:Step S0 u h u5 h5:=stp.trans s5 (fun j hj e=>by omega)
    have hv5:=hvp.mono s5.ge
    obtain⟨w1,w2,w3,w4,w5,w6,w7,w8,w9⟩:=B5.open
    have hr5:=R5.1
    have hrp:=Rp.1
    have hy5:=Y5.1
    have hmv5:=m5.lt
    have hnx5:=b5.1
    have hp5:=P5.1
    refine⟨by simp(disch:=first|omega|(simp only[zz];try omega;done)) only[↓reduceIte,go_sem,e6,R.at,R5.at,R5.2.1],?_⟩
    simp(disch:=first|omega|(simp only[zz];try omega;done)) only[↓reduceIte,go_sem,e6,R5.at,R5.2.1]
    refine effS_app1o rfl o5 (x:=(pids ps x.2.1.1,slotsP cs vi x.2.1.2.1)) (cs:=[.int .i64 (pids ps x.2.1.1),.slice wa (slotsP cs vi x.2.1.2.1).length wc]) (by rw[rep_pattern];exact⟨_,rfl,i5⟩) rfl rfl st5.ge.sz (by omega) fun a6 n6 c6 u6 h6 o6 s6 b6=>⟨zz0,?_⟩
    have nr6: ∀j,OwnB (.slice a6 n6 c6) j→j≠pr∧j≠p0∧j≠nx∧j≠mv:=fun j hj=>(b6 j hj).elim (hnA j) (fun h=>by omega)
    have R6:=R5.step s6 (fun hj=>(hnA _ hj).1 rfl)
    have P6:=P5.step s6 (fun hj=>(hnA _ hj).2.1 rfl)
    have N6:=b5.step s6 (fun hj=>(hnA _ hj).2.2.1 rfl)
    have M6:=m5.step s6 (fun hj=>(hnA _ hj).2.2.2 rfl)
    have st6:Step S0 u h u6 h6:=st5.trans s6 (fun j hj hB=>by have:=ho.ge hB;omega)
    have hr6:=R6.1
    have sw:Step (fun j=>j=pr) u6 h6 u6 (hset h6 pr 2 (.slice a6 n6 c6)):=Step.set u6 h6 _ rfl (by rw[R6.2.2.2.1];exact Nat.zero_le _)
    have R7:=R6.set (i:=2) (v:= .slice a6 n6 c6) (by simp)
    have hx6:=R6.2.1
    have hy6:=R6.2.2.1
    simp(disch:=first|omega|(simp only[zz];try omega;done)) only[↓reduceIte,go_sem,e0,e1,e4,e6,e7,e8,e18,e19,e20,hx6,hy6]
    refine⟨u6,st6.trans sw (fun j hj e=>by have e:j=pr:=e;omega),_,o6.step sw (fun j hj e=>(nr6 j hj).1 e),R7,P6.step sw (fun e=>hdis.2.2.2.2.1 e.symm),N6.step sw (fun e=>hdis.2.2.2.2.2.2.1 e.symm),n5,M6.step sw (fun e=>hdis.2.2.2.2.2.1 e.symm),l5,(hv5.mono s6.ge).mono sw.ge,nr6⟩
    have R5:=Rp.step s5 (fun e=>e.elim (fun e=>hdis.2.2.2.2.2.1 e) (fun e=>hdis.2.2.2.2.2.2.1 e))
    have P5:=Pp.step s5 (fun e=>e.elim (fun e=>hdis.2.2.2.2.2.2.2.1 e) (fun e=>hdis.2.2.2.2.2.2.2.2.1 e))
    have o5:=op.step s5 (fun j hj e=>e.elim (fun e=>(hnA j hj).2.2.2 e) (fun e=>(hnA j hj).2.2.1 e))
    have B5:=Bp.step s5 (fun j hj e=>by have:=B.lt hj;omega)
    have Y5:=Y.step s5 (fun e=>by have:=hM.lt;omega)
    have st5:Step S0 u h u5 h5:=stp.trans s5 (fun j hj e=>by omega)
    have hv5:=hvp.mono s5.ge
    obtain⟨w1,w2,w3,w4,w5,w6,w7,w8,w9⟩:=B5.open
    have hr5:=R5.1
    have hrp:=Rp.1
    have hy5:=Y5.1
    have hmv5:=m5.lt
    have hnx5:=b5.1
    have hp5:=P5.1
    refine⟨by simp(disch:=first|omega|(simp only[zz];try omega;done)) only[↓reduceIte,go_sem,e0,e6,z7,w1,w7,R.at,R5.at,R5.2.1,Y5.at,Y5.2.1],?_⟩
    simp(disch:=first|omega|(simp only[zz];try omega;done)) only[↓reduceIte,go_sem]
    refine effS_look B5.mP ⟨by simp(disch:=first|omega|(simp only[zz];try omega;done)) only[↓reduceIte,go_sem,e6,R5.2.1],?_⟩
    rw[hpid]
    simp only[lookV,Bool.false_eq_true,if_false]
    simp(disch:=first|omega|(simp only[zz];try omega;done)) only[↓reduceIte,go_sem,e6,R5.at,R5.2.1]
    refine effS_app1o rfl o5 (x:=(pids ps x.2.1.1,slotsP cs vi x.2.1.2.1)) (cs:=[.int .i64 (pids ps x.2.1.1),.slice wa (slotsP cs vi x.2.1.2.1).length wc]) (by rw[rep_pattern];exact⟨_,rfl,i5⟩) rfl rfl st5.ge.sz (by omega) fun a6 n6 c6 u6 h6 o6 s6 b6=>⟨zz0,?_⟩
    have nr6: ∀j,OwnB (.slice a6 n6 c6) j→j≠pr∧j≠p0∧j≠nx∧j≠mv:=fun j hj=>(b6 j hj).elim (hnA j) (fun h=>by omega)
    have R6:=R5.step s6 (fun hj=>(hnA _ hj).1 rfl)
    have P6:=P5.step s6 (fun hj=>(hnA _ hj).2.1 rfl)
    have N6:=b5.step s6 (fun hj=>(hnA _ hj).2.2.1 rfl)
    have M6:=m5.step s6 (fun hj=>(hnA _ hj).2.2.2 rfl)
    have st6:Step S0 u h u6 h6:=st5.trans s6 (fun j hj hB=>by have:=ho.ge hB;omega)
    have hr6:=R6.1
    have sw:Step (fun j=>j=pr) u6 h6 u6 (hset h6 pr 2 (.slice a6 n6 c6)):=Step.set u6 h6 _ rfl (by rw[R6.2.2.2.1];exact Nat.zero_le _)
    have R7:=R6.set (i:=2) (v:= .slice a6 n6 c6) (by simp)
    have hx6:=R6.2.1
    have hy6:=R6.2.2.1
    simp(disch:=first|omega|(simp only[zz];try omega;done)) only[↓reduceIte,go_sem,e0,e1,e4,e6,e7,e8,e18,e19,e20,hx6,hy6]
    refine⟨u6,st6.trans sw (fun j hj e=>by have e:j=pr:=e;omega),_,o6.step sw (fun j hj e=>(nr6 j hj).1 e),R7,P6.step sw (fun e=>hdis.2.2.2.2.1 e.symm),N6.step sw (fun e=>hdis.2.2.2.2.2.2.1 e.symm),n5,M6.step sw (fun e=>hdis.2.2.2.2.2.1 e.symm),l5,(hv5.mono s6.ge).mono sw.ge,nr6⟩
   ·rintro σ' h2 ⟨hkE,u2,vB,n2,s2,o2,R2,P2,N2,M2,hn2,hv2,hn2A⟩
    simp(disch:=first|omega|(simp only[zz];try omega;done)) only[go_sem,e0,e1,e4,e6,e7,e8,e18,e19,e20]at hkE
    obtain⟨k0,k1,k4,k6,k7,k8,k18,k19,k20⟩:=hkE
    simp(disch:=first|omega|(simp only[zz];try omega;done)) only[↓reduceIte,go_sem,k20]
    refine⟨i+1,?_,by omega⟩
    rw[hI]
    refine⟨by simp [upd,k0],by simp [upd,k1],by simp [upd,k4],by simp [upd,k6],by simp [upd,k7],by simp [upd,k8],by simp [upd,k18],by simp [upd,k19],by simp [upd],hlt,u2,vB,n2,_,s2,o2,R2,P2,N2,M2,hn2,hv2,hn2A,?_,?_⟩
    ·rw[hF,hsn];simp [hvi]
    ·simp;omega
  ·rw[if_neg hk]at hF
   have hvx:varsF (ls.take (i+1))=varsF (ls.take i):=by rw[hsn];unfold varL;rw[if_neg hk]
   simp(disch:=first|omega|(simp only[zz];try omega;done)) only[↓reduceIte,go_sem,crRule_L1,e18,e19,e20,hlt,l0,l1,l2,l3,l4,l5,l6,l7,l8,l9,l10,l11,l12,l13,eq_false hk]
   refine⟨i+1,?_,by omega⟩
   rw[hI]
   exact⟨by simp [upd,e0],by simp [upd,e1],by simp [upd,e4],by simp [upd,e6],by simp [upd,e7],by simp [upd,e8],by simp [upd,e18],by simp [upd,e19],by simp [upd],hlt,_,vA,n,acc,stp,op,Rp,Pp,by rw[hvx];exact Np,by rw[hvx];exact Mp,by rw[hvx];exact hnv,hvp,hnA,by rw[hvx];exact hF,by omega⟩
 ·obtain rfl:i=ls.length:=by omega
  rw[List.take_length]at N hM hnv hF
  rw[List.drop_length,show posF ps cs (varsF ls) []=[]from rfl,List.append_nil]at hF
  have hPos:=hF
  simp(disch:=first|omega|(simp only[zz];try omega;done)) only[↓reduceIte,go_sem,crRule_L1,e1,e19,e20]
  clear hI
  have hPL:IsSl u' h' vA (posF ps cs [] ls):=by rw[hPos];exact ho.isSl
  obtain⟨pva,pvc,hpA,-,-⟩:=hPL.sl
  subst hpA
  have nT0: ∀j,OwnB (.slice none 0 0) j→j≠pr∧j≠p0:=fun j hj=>absurd hj ownb_none
  obtain⟨J,hJ⟩: ∃J:Nat→Env→H→Prop,J=fun i σ h'=>σ 0= .pointer (some ⟨b,0,none⟩)∧σ 4= .pointer (some ⟨p0,0,none⟩)∧σ 6= .pointer (some ⟨pr,0,none⟩)∧σ 7= .map (some mv)∧σ 8= .pointer (some ⟨nx,0,none⟩)∧σ 48= .slice la ls.length lc∧σ 49= .int .i64 ls.length∧σ 50= .int .i64 i∧i≤ls.length∧
   ∃(u':U) (vT vN:Value),Step S0 u h u' h'∧Own h.size u' h' vT (testsF cs (varsF ls) (ls.take i))∧Own h.size u' h' vN (negsF ps cs (varsF ls) (ls.take i))∧Blk u' h' pr [.int .i64 0,.slice none 0 0,.slice pva (posF ps cs [] ls).length pvc,vT,vN,.slice va (varsF ls).length vc,.int .i64 0]∧
    Blk u' h' p0 [.int .i64 0,.slice none 0 0,.slice none 0 0,.slice none 0 0,.slice none 0 0,.slice none 0 0,.int .i64 0]∧MapB h' mv (lastL (varsF ls)) n∧IsSl u' h' (.slice va (varsF ls).length vc) (varsF ls)∧IsSl u' h' (.slice pva (posF ps cs [] ls).length pvc) (posF ps cs [] ls)∧
    (∀j,OwnB vT j→j≠pr∧j≠p0∧j≠mv)∧(∀j,OwnB vN j→j≠pr∧j≠p0∧j≠mv)∧(∀j,OwnB vT j→ ¬OwnB vN j):=⟨_,rfl⟩
  refine wpS_loop J (fun i=>ls.length - i) 0 (by
   rw[hJ]
   exact⟨by simp [upd,e0],by simp [upd,e4],by simp [upd,e6],by simp [upd,e7],by simp [upd,e8],by simp [upd],by simp [upd],by simp [upd],Nat.zero_le _,u',_,_,st,.nil _ _ _,.nil _ _ _,R,P,hM,hvV,hPL,fun j hj=>absurd hj ownb_none,fun j hj=>absurd hj ownb_none,fun j hj=>absurd hj ownb_none⟩) ?_
  clear e0 e1 e4 e6 e7 e8 e18 e19 e20 st ho R P N hM hvV hnA hF hal hPL hpl hrl hnl z1 z2 z3 z4 z5 z6 z7 z8 z9 B' hi hlt nT0 hPos
  clear u' h' acc σ
  intro i σ h' hy
  rw[hJ]at hy
  obtain⟨e0,e4,e6,e7,e8,e48,e49,e50,hi,u',vT,vN,st,oT,oN,R,P,hM,hvV,hPL,nT,nN,nTN⟩:=hy
  have B':=B.step st (fun _ _ h=>h)
  obtain⟨z1,z2,z3,z4,z5,z6,z7,z8,z9⟩:=B'.open
  have hrl:=R.1
  have hpl:=P.1
  by_cases hlt:i<ls.length
  ·obtain⟨x,hs⟩: ∃x,ls[i]? =some x:=⟨ls[i],by simp [hlt]⟩
   have hwx:=hwf x (List.mem_of_getElem? hs)
   have hsT:testsF cs (varsF ls) (ls.take (i+1))=testsF cs (varsF ls) (ls.take i)++testsF cs (varsF ls) [x]:=by unfold testsF;rw[List.take_add_one,hs,Option.toList_some,List.filter_append,List.map_append]
   have hsN:negsF ps cs (varsF ls) (ls.take (i+1))=negsF ps cs (varsF ls) (ls.take i)++negsF ps cs (varsF ls) [x]:=by unfold negsF;rw[List.take_add_one,hs,Option.toList_some,List.filter_append,List.map_append]
   have hlT:(testsF cs (varsF ls) (ls.take i)).length≤ls.length:=by unfold testsF;rw[List.length_map];exact Nat.le_trans (List.length_filter_le ..) (by rw[List.length_take];exact Nat.min_le_right _ _)
   have hlN:(negsF ps cs (varsF ls) (ls.take i)).length≤ls.length:=by unfold negsF;rw[List.length_map];exact Nat.le_trans (List.length_filter_le ..) (by rw[List.length_take];exact Nat.min_le_right _ _)
   have hvl:(varsF ls).length≤1048576:=by have:=varsL_len ls [];unfold varsF;simp only[List.length_nil]at this;omega
   obtain⟨pb,po,rfl,hpb,hpu,hpz,hpr⟩:=(hl.mono st.ge).row i x hs
   rw[rep_literal]at hpr
   obtain⟨pv,hpr,hpv⟩:=hpr
   obtain⟨xva,xvc,rfl,r1,r2⟩:=hpv.sl
   simp only[Term.enc,sz_literal,hvs_14,List.cons_append,List.nil_append,List.cons.injEq,and_true]at hpr hpu hpz
   obtain⟨l0,l1,l2,l3,l4,l5,l6,l7,l8,l9,l10,l11,l12,l13⟩:=hpr
   have sp:=Step.push0 S0 u' h' #[.int .i64 x.1,str x.2.1.1,.slice xva x.2.1.2.1.length xvc,.int .i64 x.2.1.2.2,.int .i64 x.2.2.1,.int .i64 x.2.2.2.1.1,.int .i64 x.2.2.2.1.2.1,str x.2.2.2.1.2.2.1,.int .i64 x.2.2.2.1.2.2.2,.int .i64 x.2.2.2.2.1.1,.int .i64 x.2.2.2.2.1.2.1,str x.2.2.2.2.1.2.2.1,.int .i64 x.2.2.2.2.1.2.2.2,.int .i64 x.2.2.2.2.2] 119
   have Y:Blk (ub u' h'.size 0) (h'.push (.cells #[.int .i64 x.1,str x.2.1.1,.slice xva x.2.1.2.1.length xvc,.int .i64 x.2.1.2.2,.int .i64 x.2.2.1,.int .i64 x.2.2.2.1.1,.int .i64 x.2.2.2.1.2.1,str x.2.2.2.1.2.2.1,.int .i64 x.2.2.2.1.2.2.2,.int .i64 x.2.2.2.2.1.1,.int .i64 x.2.2.2.2.1.2.1,str x.2.2.2.2.1.2.2.1,.int .i64 x.2.2.2.2.1.2.2.2,.int .i64 x.2.2.2.2.2] 119)) h'.size
    [.int .i64 x.1,str x.2.1.1,.slice xva x.2.1.2.1.length xvc,.int .i64 x.2.1.2.2,.int .i64 x.2.2.1,.int .i64 x.2.2.2.1.1,.int .i64 x.2.2.2.1.2.1,str x.2.2.2.1.2.2.1,.int .i64 x.2.2.2.1.2.2.2,.int .i64 x.2.2.2.2.1.1,.int .i64 x.2.2.2.2.1.2.1,str x.2.2.2.2.1.2.2.1,.int .i64 x.2.2.2.2.1.2.2.2,.int .i64 x.2.2.2.2.2]:=(Blk.mk (by simp only[e_psz];omega) (by simp(disch:=first|omega|(simp only[zz];try omega;done)) only[go_sem]) (by simp(disch:=first|omega|(simp only[zz];try omega;done)) only[go_sem]) (by repeat (first|(refine ub_at ?_;simp only[];done)|apply ub_zero)) (by simp(disch:=first|omega|(simp only[zz];try omega;done)) only[go_sem]))
   have Bp:=B'.step sp (fun _ _ h=>h)
   have oTp:=oT.step0 sp
   have oNp:=oN.step0 sp
   have Rp:=R.step0 sp
   have Pp:=P.step0 sp
   have Mp:=hM.step sp (fun h=>h)
   have stp:=st.trans0 sp
   obtain⟨hp,hhp⟩: ∃hp,hp=h'.push (.cells #[.int .i64 x.1,str x.2.1.1,.slice xva x.2.1.2.1.length xvc,.int .i64 x.2.1.2.2,.int .i64 x.2.2.1,.int .i64 x.2.2.2.1.1,.int .i64 x.2.2.2.1.2.1,str x.2.2.2.1.2.2.1,.int .i64 x.2.2.2.1.2.2.2,.int .i64 x.2.2.2.2.1.1,.int .i64 x.2.2.2.2.1.2.1,str x.2.2.2.2.1.2.2.1,.int .i64 x.2.2.2.2.1.2.2.2,.int .i64 x.2.2.2.2.2] 119):=⟨_,rfl⟩
   have hslots: ∀(u1:U) (h1:H) (v1:Value) (tl:List Term),Step S0 (ub u' h'.size 0) hp u1 h1→IsSl u1 h1 v1 tl→(∀t∈tl,Rep.wf (cnst t))→tl.length≤1048576→ ∀(K':Value→H→Prop),(∀u5 h5 (wa:Option Addr) (wc:Nat),Step S0 u1 h1 u5 h5→
     IsSl u5 h5 (.slice wa (tl.map (slotN cs (varsF ls))).length wc) (tl.map (slotN cs (varsF ls)))→MapB h5 mv (lastL (varsF ls)) n→K' (.slice wa (tl.map (slotN cs (varsF ls))).length wc) h5)→
     C_slots [.pointer (some ⟨b,0,none⟩),v1,.map (some mv),.pointer (some ⟨nx,0,none⟩),.bool false] h1 K':=fun u1 h1 v1 tl s1 hv1 hw1 hl1 K' hK'=>by
    rw[←hhp]at Bp Mp
    have M1:=Mp.step s1 (fun h=>h)
    refine⟨k,u1,b,mp,mc,mv,nx,n,_,vP,vC,vR,vF,tl,ps,cs,rs,fs,varsF ls,false,rfl,hv1,Bp.step s1 (fun _ _ h=>h),M1,hnv,hw1,by omega,(fun h=>by cases h),fun u5 h5 w n5 s5 o5 m5 l5 b5=> ?_⟩
    have o5:Own _ u5 h5 w (tl.map (slotN cs (varsF ls))):=o5
    obtain⟨wa,wc,rfl,-,-⟩:=o5.sl
    have s5':Step S0 u1 h1 u5 h5:=s5.mono fun j _ hj=>by cases hj.1
    exact hK' u5 h5 wa wc s5' o5.isSl (M1.step s5' (fun h=>h))
   have next: ∀(σ':Env) (u3:U) (h3:H) (vT' vN':Value),σ' 0=σ 0→σ' 4=σ 4→σ' 6=σ 6→σ' 7=σ 7→σ' 8=σ 8→σ' 48=σ 48→σ' 49=σ 49→σ' 50= .int .i64 ((i:Int)+1)→Step S0 u' h' u3 h3∨Step S0 u h u3 h3→Step S0 u h u3 h3→
     Own h.size u3 h3 vT' (testsF cs (varsF ls) (ls.take i)++testsF cs (varsF ls) [x])→Own h.size u3 h3 vN' (negsF ps cs (varsF ls) (ls.take i)++negsF ps cs (varsF ls) [x])→Blk u3 h3 pr [.int .i64 0,.slice none 0 0,.slice pva (posF ps cs [] ls).length pvc,vT',vN',.slice va (varsF ls).length vc,.int .i64 0]→
     Blk u3 h3 p0 [.int .i64 0,.slice none 0 0,.slice none 0 0,.slice none 0 0,.slice none 0 0,.slice none 0 0,.int .i64 0]→MapB h3 mv (lastL (varsF ls)) n→IsSl u3 h3 (.slice va (varsF ls).length vc) (varsF ls)→IsSl u3 h3 (.slice pva (posF ps cs [] ls).length pvc) (posF ps cs [] ls)→
     (∀j,OwnB vT' j→j≠pr∧j≠p0∧j≠mv)→(∀j,OwnB vN' j→j≠pr∧j≠p0∧j≠mv)→(∀j,OwnB vT' j→ ¬OwnB vN' j)→ ∃y,J y σ' h3∧ls.length - y<ls.length - i:=fun σ' u3 h3 vT' vN' g0 g4 g6 g7 g8 g48 g49 g50 _ s3 oT3 oN3 R3 P3 M3 v3 p3 nT3 nN3 nTN3=>by
    refine⟨i+1,?_,by omega⟩
    rw[hJ]
    exact⟨by rw[g0,e0],by rw[g4,e4],by rw[g6,e6],by rw[g7,e7],by rw[g8,e8],by rw[g48,e48],by rw[g49,e49],g50,hlt,u3,vT',vN',s3,by rw[hsT];exact oT3,by rw[hsN];exact oN3,R3,P3,M3,v3,p3,nT3,nN3,nTN3⟩
   by_cases hk3:x.1=3
   ·have hta:termsL x=[x.2.2.2.1,x.2.2.2.2.1]:=by unfold termsL;rw[if_neg (by omega),if_pos hk3]
    rw[hta]at hwx
    have hN0:negsF ps cs (varsF ls) [x]=[]:=by unfold negsF;simp [hk3]
    have hT1:testsF cs (varsF ls) [x]=[(x.2.2.1,slotN cs (varsF ls) x.2.2.2.1,slotN cs (varsF ls) x.2.2.2.2.1)]:=by unfold testsF testF;simp [hk3]
    have i1:=two_terms (ub u' h'.size 0) hp x.2.2.2.1 x.2.2.2.2.1 56
    have s1:=Step.push S0 (ub u' h'.size 0) hp #[.int .i64 x.2.2.2.1.1,.int .i64 x.2.2.2.1.2.1,str x.2.2.2.1.2.2.1,.int .i64 x.2.2.2.1.2.2.2,.int .i64 x.2.2.2.2.1.1,.int .i64 x.2.2.2.2.1.2.1,str x.2.2.2.2.1.2.2.1,.int .i64 x.2.2.2.2.1.2.2.2] 56 8
    have hhs:hp.size=h'.size+1:=by rw[hhp];simp only[e_psz]
    rw[hhs]at i1 s1
    simp(disch:=first|omega|(simp only[zz];try omega;done)) only[↓reduceIte,go_sem,crRule_L2,e0,e7,e8,e48,e49,e50,hlt,l0,l1,l2,l3,l4,l5,l6,l7,l8,l9,l10,l11,l12,l13,eq_true hk3]
    rw[←hhp]
    rw[←hhp]at oTp oNp Rp Pp Mp Y sp stp Bp
    refine effS_call (.inr ⟨rfl,hslots _ _ _ _ s1 i1 hwx (by simp) _ fun u5 h5 wa wc s5 i5 m5=>⟨zz0,?_⟩⟩)
    simp only[List.map_cons,List.map_nil,List.length_cons,List.length_nil,Nat.zero_add,Nat.reduceAdd]at i5 ⊢
    obtain⟨wb,wo,rfl,hwb,hwu0,hwz0,hw0⟩:=i5.row 0 _ rfl
    obtain⟨wb',wo',hwe,-,hwu1,hwz1,hw1⟩:=i5.row 1 _ rfl
    cases hwe
    rw[rep_slot]at hw0 hw1
    simp only[sz_slot,hvs_2,List.cons.injEq,and_true,Nat.zero_mul,Nat.add_zero,Nat.one_mul]at hw0 hw1 hwu0 hwu1 hwz0 hwz1
    have st5:=(stp.trans0 s1).trans0 s5
    have R5:=(Rp.step0 s1).step0 s5
    have P5:=(Pp.step0 s1).step0 s5
    have oT5:=(oTp.step0 s1).step0 s5
    have oN5:=(oNp.step0 s1).step0 s5
    have Y5:=(Y.step0 s1).step0 s5
    have v5:=((hvV.mono sp.ge).mono s1.ge).mono s5.ge
    have p5:=((hPL.mono sp.ge).mono s1.ge).mono s5.ge
    have hr5:=R5.1
    have hy5:=Y5.1
    simp(disch:=first|omega|(simp only[zz];try omega;done)) only[↓reduceIte,go_sem,e6,R5.at,R5.2.1,Y5.at,Y5.2.1,hw0.1,hw0.2,hw1.1,hw1.2]
    refine effS_app1o rfl oT5 (x:=(x.2.2.1,slotN cs (varsF ls) x.2.2.2.1,slotN cs (varsF ls) x.2.2.2.2.1)) (cs:=[.int .i64 x.2.2.1,.bool (slotN cs (varsF ls) x.2.2.2.1).1,.int .i64 (slotN cs (varsF ls) x.2.2.2.1).2,.bool (slotN cs (varsF ls) x.2.2.2.2.1).1,.int .i64 (slotN cs (varsF ls) x.2.2.2.2.1).2]) (by rw[rep_test]) rfl rfl st5.ge.sz (by omega) fun a6 n6 c6 u6 h6 o6 s6 b6=>⟨zz0,?_⟩
    have nT6: ∀j,OwnB (.slice a6 n6 c6) j→j≠pr∧j≠p0∧j≠mv:=fun j hj=>(b6 j hj).elim (nT j) (fun h=>by have:=hM.lt;have:=st5.ge.sz;have:=R5.1;have:=P5.1;have:=m5.lt;omega)
    have R6:=R5.step s6 (fun hj=>(nT _ hj).1 rfl)
    have P6:=P5.step s6 (fun hj=>(nT _ hj).2.1 rfl)
    have M6:=m5.step s6 (fun hj=>(nT _ hj).2.2 rfl)
    have oN6:=oN5.step s6 (fun j hj hT=>nTN j hT hj)
    have st6:Step S0 u h u6 h6:=st5.trans s6 (fun j hj hB=>by have:=oT.ge hB;omega)
    have nTN6: ∀j,OwnB (.slice a6 n6 c6) j→ ¬OwnB vN j:=fun j hj hN=>(b6 j hj).elim (fun h=>nTN j h hN) (fun h=>by have:=oN5.lt hN;omega)
    have hr6:=R6.1
    have sw:Step (fun j=>j=pr) u6 h6 u6 (hset h6 pr 3 (.slice a6 n6 c6)):=Step.set u6 h6 _ rfl (by rw[R6.2.2.2.1];exact Nat.zero_le _)
    have R7:=R6.set (i:=3) (v:= .slice a6 n6 c6) (by simp)
    have hx6:=R6.2.1
    have hy6:=R6.2.2.1
    simp(disch:=first|omega|(simp only[zz];try omega;done)) only[↓reduceIte,go_sem,e6,e50,hx6,hy6]
    exact next _ u6 _ _ vN (by simp [upd]) (by simp [upd]) (by simp [upd]) (by simp [upd]) (by simp [upd]) (by simp [upd]) (by simp [upd]) (by simp [upd]) (.inr (st6.trans sw (fun j hj e=>by have e:j=pr:=e;omega))) (st6.trans sw (fun j hj e=>by have e:j=pr:=e;omega)) (by rw[hT1];exact o6.step sw (fun j hj e=>(nT6 j hj).1 e)) (by rw[hN0,List.append_nil];exact oN6.step sw (fun j hj e=>(nN j hj).1 e)) R7
     (P6.step sw (fun e=>hdis.2.2.2.2.1 e.symm)) (M6.step sw (fun e=>hdis.2.2.2.2.2.1 e.symm)) ((v5.mono s6.ge).mono sw.ge) ((p5.mono s6.ge).mono sw.ge) nT6 nN nTN6
   by_cases hk2:x.1=2
   ·have hta:termsL x=x.2.1.2.1:=by unfold termsL;rw[if_pos (.inr hk2)];rfl
    rw[hta]at hwx
    have hT0:testsF cs (varsF ls) [x]=[]:=by unfold testsF;simp [hk3]
    have hN1:negsF ps cs (varsF ls) [x]=[patF ps cs (varsF ls) x.2.1]:=by unfold negsF;simp [hk2]
    have hxl:x.2.1.2.1.length≤1048576:=by
     have h2:=tot_take hs
     unfold argN at h2
     omega
    have hpid:(posL (ps.map (·.1)) x.2.1.1).getD 0=pids ps x.2.1.1:=rfl
    simp(disch:=first|omega|(simp only[zz];try omega;done)) only[↓reduceIte,go_sem,crRule_L2,e48,e49,e50,hlt,l0,l1,l2,l3,l4,l5,l6,l7,l8,l9,l10,l11,l12,l13,eq_false hk3,eq_true hk2]
    rw[←hhp]
    rw[←hhp]at oTp oNp Rp Pp Mp Y sp stp Bp
    have hhs:hp.size=h'.size+1:=by rw[hhp];simp only[e_psz]
    have hrp:=Rp.1
    have hyp:=Y.1
    obtain⟨x1,x2,x3,x4,x5,x6,x7,x8,x9⟩:=Bp.open
    clear hhp
    refine w_join (fun σ' h2=>keepE σ σ' [0,4,6,7,8,48,49,50]∧ ∃(u2:U) (vB:Value),Step S0 u h u2 h2∧Own h.size u2 h2 vT (testsF cs (varsF ls) (ls.take i))∧Own h.size u2 h2 vB (negsF ps cs (varsF ls) (ls.take i)++negsF ps cs (varsF ls) [x])∧Blk u2 h2 pr [.int .i64 0,.slice none 0 0,.slice pva (posF ps cs [] ls).length pvc,vT,vB,.slice va (varsF ls).length vc,.int .i64 0]∧
     Blk u2 h2 p0 [.int .i64 0,.slice none 0 0,.slice none 0 0,.slice none 0 0,.slice none 0 0,.slice none 0 0,.int .i64 0]∧MapB h2 mv (lastL (varsF ls)) n∧IsSl u2 h2 (.slice va (varsF ls).length vc) (varsF ls)∧IsSl u2 h2 (.slice pva (posF ps cs [] ls).length pvc) (posF ps cs [] ls)∧
     (∀j,OwnB vB j→j≠pr∧j≠p0∧j≠mv)∧(∀j,OwnB vT j→ ¬OwnB vB j)) ?_ ?_
    ·simp(disch:=first|omega|(simp only[zz];try omega;done)) only[↓reduceIte,go_sem,w_both,e0,e4,e6,e7,e8,e48,e49,e50,x1,x7,Rp.at,Rp.2.1,Y.at,Y.2.1]
     refine⟨effS_look Bp.mP ⟨by simp(disch:=first|omega|(simp only[zz];try omega;done)) only[↓reduceIte,go_sem,e6,Rp.2.1,Y.2.1],?_⟩,effS_call (.inr ⟨rfl,hslots _ _ _ _ (.refl _ _ _) (hpv.mono sp.ge) hwx hxl _ fun u5 h5 wa wc s5' i5 m5=> ?_⟩)⟩
     rw[hpid]
     simp only[lookV,Bool.false_eq_true,if_false]
     simp(disch:=first|omega|(simp only[zz];try omega;done)) only[↓reduceIte,go_sem,e0,e7,e8]
     refine effS_call (.inr ⟨rfl,hslots _ _ _ _ (.refl _ _ _) (hpv.mono sp.ge) hwx hxl _ fun u5 h5 wa wc s5' i5 m5=> ?_⟩)
     have s5:=s5'
     have R5:=Rp.step0 s5
     have P5:=Pp.step0 s5
     have oT5:=oTp.step0 s5
     have oN5:=oNp.step0 s5
     have B5:=Bp.step s5 (fun _ _ h=>h)
     have Y5:=Y.step0 s5
     have st5:=stp.trans0 s5
     have v5:=(hvV.mono sp.ge).mono s5.ge
     have p5:=(hPL.mono sp.ge).mono s5.ge
     obtain⟨w1,w2,w3,w4,w5,w6,w7,w8,w9⟩:=B5.open
     have hr5:=R5.1
     have hrp:=Rp.1
     have hy5:=Y5.1
     have hmv5:=m5.lt
     have hp5:=P5.1
     refine⟨by simp(disch:=first|omega|(simp only[zz];try omega;done)) only[↓reduceIte,go_sem,e6,Rp.at,R5.at,R5.2.1],?_⟩
     simp(disch:=first|omega|(simp only[zz];try omega;done)) only[↓reduceIte,go_sem,e6,R5.at,R5.2.1]
     refine effS_app1o rfl oN5 (x:=patF ps cs (varsF ls) x.2.1) (cs:=[.int .i64 (pids ps x.2.1.1),.slice wa (x.2.1.2.1.map (slotN cs (varsF ls))).length wc]) (by rw[rep_pattern];exact⟨_,rfl,i5⟩) rfl rfl st5.ge.sz (by omega) fun a6 n6 c6 u6 h6 o6 s6 b6=>⟨zz0,?_⟩
     have nN6: ∀j,OwnB (.slice a6 n6 c6) j→j≠pr∧j≠p0∧j≠mv:=fun j hj=>(b6 j hj).elim (nN j) (fun h=>by omega)
     have R6:=R5.step s6 (fun hj=>(nN _ hj).1 rfl)
     have P6:=P5.step s6 (fun hj=>(nN _ hj).2.1 rfl)
     have M6:=m5.step s6 (fun hj=>(nN _ hj).2.2 rfl)
     have oT6:=oT5.step s6 (fun j hj hN=>nTN j hj hN)
     have st6:Step S0 u h u6 h6:=st5.trans s6 (fun j hj hB=>by have:=oN.ge hB;omega)
     have nTN6: ∀j,OwnB vT j→ ¬OwnB (.slice a6 n6 c6) j:=fun j hT hj=>(b6 j hj).elim (fun h=>nTN j hT h) (fun h=>by have:=oT5.lt hT;omega)
     have hr6:=R6.1
     have sw:Step (fun j=>j=pr) u6 h6 u6 (hset h6 pr 4 (.slice a6 n6 c6)):=Step.set u6 h6 _ rfl (by rw[R6.2.2.2.1];exact Nat.zero_le _)
     have R7:=R6.set (i:=4) (v:= .slice a6 n6 c6) (by simp)
     have hx6:=R6.2.1
     have hy6:=R6.2.2.1
     simp(disch:=first|omega|(simp only[zz];try omega;done)) only[↓reduceIte,go_sem,e0,e4,e6,e7,e8,e48,e49,e50,hx6,hy6]
     exact⟨u6,st6.trans sw (fun j hj e=>by have e:j=pr:=e;omega),oT6.step sw (fun j hj e=>(nT j hj).1 e),_,by rw[hN1];exact o6.step sw (fun j hj e=>(nN6 j hj).1 e),R7,P6.step sw (fun e=>hdis.2.2.2.2.1 e.symm),M6.step sw (fun e=>hdis.2.2.2.2.2.1 e.symm),(v5.mono s6.ge).mono sw.ge,(p5.mono s6.ge).mono sw.ge,nN6,nTN6⟩
     have s5:=s5'
     have R5:=Rp.step0 s5
     have P5:=Pp.step0 s5
     have oT5:=oTp.step0 s5
     have oN5:=oNp.step0 s5
     have B5:=Bp.step s5 (fun _ _ h=>h)
     have Y5:=Y.step0 s5
     have st5:=stp.trans0 s5
     have v5:=(hvV.mono sp.ge).mono s5.ge
     have p5:=(hPL.mono sp.ge).mono s5.ge
     obtain⟨w1,w2,w3,w4,w5,w6,w7,w8,w9⟩:=B5.open
     have hr5:=R5.1
     have hrp:=Rp.1
     have hy5:=Y5.1
     have hmv5:=m5.lt
     have hp5:=P5.1
     refine⟨by simp(disch:=first|omega|(simp only[zz];try omega;done)) only[↓reduceIte,go_sem,e0,e6,x7,w1,w7,Rp.at,R5.at,R5.2.1,Y.at,Y5.at,Y5.2.1],?_⟩
     simp(disch:=first|omega|(simp only[zz];try omega;done)) only[↓reduceIte,go_sem]
     refine effS_look B5.mP ⟨by simp(disch:=first|omega|(simp only[zz];try omega;done)) only[↓reduceIte,go_sem,e6,R5.2.1],?_⟩
     rw[hpid]
     simp only[lookV,Bool.false_eq_true,if_false]
     simp(disch:=first|omega|(simp only[zz];try omega;done)) only[↓reduceIte,go_sem,e6,R5.at,R5.2.1]
     refine effS_app1o rfl oN5 (x:=patF ps cs (varsF ls) x.2.1) (cs:=[.int .i64 (pids ps x.2.1.1),.slice wa (x.2.1.2.1.map (slotN cs (varsF ls))).length wc]) (by rw[rep_pattern];exact⟨_,rfl,i5⟩) rfl rfl st5.ge.sz (by omega) fun a6 n6 c6 u6 h6 o6 s6 b6=>⟨zz0,?_⟩
     have nN6: ∀j,OwnB (.slice a6 n6 c6) j→j≠pr∧j≠p0∧j≠mv:=fun j hj=>(b6 j hj).elim (nN j) (fun h=>by omega)
     have R6:=R5.step s6 (fun hj=>(nN _ hj).1 rfl)
     have P6:=P5.step s6 (fun hj=>(nN _ hj).2.1 rfl)
     have M6:=m5.step s6 (fun hj=>(nN _ hj).2.2 rfl)
     have oT6:=oT5.step s6 (fun j hj hN=>nTN j hj hN)
     have st6:Step S0 u h u6 h6:=st5.trans s6 (fun j hj hB=>by have:=oN.ge hB;omega)
     have nTN6: ∀j,OwnB vT j→ ¬OwnB (.slice a6 n6 c6) j:=fun j hT hj=>(b6 j hj).elim (fun h=>nTN j hT h) (fun h=>by have:=oT5.lt hT;omega)
     have hr6:=R6.1
     have sw:Step (fun j=>j=pr) u6 h6 u6 (hset h6 pr 4 (.slice a6 n6 c6)):=Step.set u6 h6 _ rfl (by rw[R6.2.2.2.1];exact Nat.zero_le _)
     have R7:=R6.set (i:=4) (v:= .slice a6 n6 c6) (by simp)
     have hx6:=R6.2.1
     have hy6:=R6.2.2.1
     simp(disch:=first|omega|(simp only[zz];try omega;done)) only[↓reduceIte,go_sem,e0,e4,e6,e7,e8,e48,e49,e50,hx6,hy6]
     exact⟨u6,st6.trans sw (fun j hj e=>by have e:j=pr:=e;omega),oT6.step sw (fun j hj e=>(nT j hj).1 e),_,by rw[hN1];exact o6.step sw (fun j hj e=>(nN6 j hj).1 e),R7,P6.step sw (fun e=>hdis.2.2.2.2.1 e.symm),M6.step sw (fun e=>hdis.2.2.2.2.2.1 e.symm),(v5.mono s6.ge).mono sw.ge,(p5.mono s6.ge).mono sw.ge,nN6,nTN6⟩
    ·rintro σ' h2 ⟨hkE,u2,vB,s2,oT2,oN2,R2,P2,M2,v2,p2,nN2,nTN2⟩
     simp(disch:=first|omega|(simp only[zz];try omega;done)) only[go_sem,e0,e4,e6,e7,e8,e48,e49,e50]at hkE
     obtain⟨k0,k4,k6,k7,k8,k48,k49,k50⟩:=hkE
     simp(disch:=first|omega|(simp only[zz];try omega;done)) only[↓reduceIte,go_sem,k50]
     exact next _ u2 h2 vT vB (by simp [upd,k0,e0]) (by simp [upd,k4,e4]) (by simp [upd,k6,e6]) (by simp [upd,k7,e7]) (by simp [upd,k8,e8]) (by simp [upd,k48,e48]) (by simp [upd,k49,e49]) (by simp [upd]) (.inr s2) s2 (by rw[hT0,List.append_nil];exact oT2) oN2 R2 P2 M2 v2 p2 nT nN2 nTN2
   ·have hT0:testsF cs (varsF ls) [x]=[]:=by unfold testsF;simp [hk3]
    have hN0:negsF ps cs (varsF ls) [x]=[]:=by unfold negsF;simp [hk2]
    simp(disch:=first|omega|(simp only[zz];try omega;done)) only[↓reduceIte,go_sem,crRule_L2,e48,e49,e50,hlt,l0,l1,l2,l3,l4,l5,l6,l7,l8,l9,l10,l11,l12,l13,eq_false hk3,eq_false hk2]
    exact next _ _ _ vT vN (by simp [upd]) (by simp [upd]) (by simp [upd]) (by simp [upd]) (by simp [upd]) (by simp [upd]) (by simp [upd]) (by simp [upd]) (.inl sp) stp (by rw[hT0,List.append_nil];exact oTp) (by rw[hN0,List.append_nil];exact oNp) Rp Pp Mp (hvV.mono sp.ge) (hPL.mono sp.ge) nT nN nTN
  ·obtain rfl:i=ls.length:=by omega
   rw[List.take_length]at oT oN
   obtain⟨ta,tc,rfl,-,-⟩:=oT.sl
   obtain⟨na,nc,rfl,-,-⟩:=oN.sl
   simp(disch:=first|omega|(simp only[zz];try omega;done)) only[↓reduceIte,go_sem,crRule_L2,e4,e6,e7,e49,e50,R.at,R.2.1,P.2.1,P.2.2.1]
   obtain⟨y0,y1,y2,y3,y4,y5,y6,y7⟩:=set7 (v0:= .int .i64 0) (v1:= .slice none 0 0) (v2:= .slice pva (posF ps cs [] ls).length pvc) (v3:= .slice ta (testsF cs (varsF ls) ls).length tc) (v4:= .slice na (negsF ps cs (varsF ls) ls).length nc) (v5:= .slice va (varsF ls).length vc) (v6:= .int .i64 0) P.2.1
   rw[y0,y1,y2,y3,y4,y5,y6,y7]
   refine⟨Nat.le_refl _,?_⟩
   have sw:Step (fun j=>j=p0) u' h' u' (hsets h' p0 0 [.int .i64 0,.slice none 0 0,.slice pva (posF ps cs [] ls).length pvc,.slice ta (testsF cs (varsF ls) ls).length tc,.slice na (negsF ps cs (varsF ls) ls).length nc,.slice va (varsF ls).length vc,.int .i64 0]):=Step.sets u' h' _ rfl (by rw[P.2.2.2.1];exact Nat.le_refl _) (by rw[P.2.1];exact Nat.le_refl _)
   refine hK u' _ mv n [.int .i64 0,.slice none 0 0,.slice pva (posF ps cs [] ls).length pvc,.slice ta (testsF cs (varsF ls) ls).length tc,.slice na (negsF ps cs (varsF ls) ls).length nc,.slice va (varsF ls).length vc,.int .i64 0] (st.trans sw fun j hj e=>by have e:j=p0:=e;omega) ?_ (hM.step sw fun e=>hdis.2.2.2.2.2.2.2.1 (by have e:mv=p0:=e;exact e.symm)) hnv hdis.2.2.1
   rw[rep_rule]
   exact⟨_,_,_,_,_,rfl,.nil _ _,hPL.mono sw.ge,oT.isSl.mono sw.ge,oN.isSl.mono sw.ge,hvV.mono sw.ge⟩
end Go.Proofs.YtmjinnbdnpedcaaGreat
