/- core: slots. -/
import Derived.Test.YtmjinnbdnpedcaaGreatKcG
namespace Edict
def slF(pos:Bool)(cs:List Const)(vi:Strs)(tl:List Term):List Slot:=if pos then slotsP cs vi tl else tl.map (slotN cs vi)
def slV(pos:Bool)(vi:Strs)(tl:List Term):Strs:=if pos then tl.foldl varT vi else vi
def slT(pos:Bool)(vi:Strs)(t:Term):Strs:=if pos then varT vi t else vi
theorem slF_cons(pos:Bool)(cs:List Const)(vi:Strs)(t:Term)(l:List Term):slF pos cs vi (t::l)=slotN cs (slT pos vi t) t::slF pos cs (slT pos vi t) l:=by
 cases pos<;>rfl
theorem slV_cons(pos:Bool)(vi:Strs)(t:Term)(l:List Term):slV pos vi (t::l)=slV pos (slT pos vi t) l:=by
 cases pos<;>rfl
theorem slF_nil(pos:Bool)(cs:List Const)(vi:Strs):slF pos cs vi []=[]:=by cases pos<;>rfl
theorem slV_nil(pos:Bool)(vi:Strs):slV pos vi []=vi:=by cases pos<;>rfl
theorem slT_len(pos:Bool)(vi:Strs)(t:Term):(slT pos vi t).length≤vi.length+1:=by
 unfold slT;split
 ·exact varT_len vi t
 ·omega
end Edict
namespace Go.Proofs.YtmjinnbdnpedcaaGreat
open Go Go.Ev Edict
def C_slots(vs:List Value)(h:H)(K:Value→H→Prop):Prop:= ∃(k:Nat) (u:U) (b mp mc mv nx n:Nat) (v vP vC vR vF:Value) (tl:List Term) (ps:List Pred) (cs:List Const) (rs:List Rule) (fs:List Row) (vi:Strs) (pos:Bool),
 vs=[.pointer (some ⟨b,0,none⟩),v,.map (some mv),.pointer (some ⟨nx,0,none⟩),.bool pos]∧IsSl u h v tl∧BSt k u h b mp mc vP vC vR vF ps cs rs fs∧MapB h mv (lastL vi) n∧n≤vi.length∧
 (∀t∈tl,Rep.wf (cnst t))∧vi.length+tl.length≤4194304∧
 (pos=true→Blk u h nx [.int .i64 vi.length]∧mv≠nx∧ ¬BStB b mp mc vP vC vR vF mv∧ ¬BStB b mp mc vP vC vR vF nx)∧
 ∀u' h' w n',Step (fun i=>pos=true∧(i=mv∨i=nx)) u h u' h'→Own h.size u' h' w (slF pos cs vi tl)→MapB h' mv (lastL (slV pos vi tl)) n'→n'≤(slV pos vi tl).length→
  (pos=true→Blk u' h' nx [.int .i64 (slV pos vi tl).length])→K w h'
def G_crSlots:Ctr:=fun f vs h K _=>f=52∧C_constant vs h K
theorem G_crSlots_ok:GOk Tryz.prog G_crSlots:=by
 rintro f vs h K KP ⟨rfl,hC⟩;exact crConst_ok hC
theorem crSlots_ok{vs:List Value}{h:H}{K:Value→H→Prop}{KP:List PanicEntry→H→Prop}(hC:C_slots vs h K):HCX Tryz.prog 28 vs h K KP:=by
 obtain⟨k,u,b,mp,mc,mv,nx,n,v,vP,vC,vR,vF,tl,ps,cs,rs,fs,vi,pos,rfl,hl,B,hM,hnv,hwf,hlen,hpos,hK⟩:=hC
 obtain⟨la,lc,rfl,q1,q2⟩:=hl.sl
 have hm:=mlen'
 refine crSlots_H G_crSlots G_crSlots_ok _ _ _ _ _ ?_
 simp(disch:=first|omega|(simp only[zz];try omega;done)) only[↓reduceIte,go_sem,crSlots_S,crSlots_E]
 obtain⟨I,hI⟩: ∃I:Nat→Env→H→Prop,I=fun i σ h'=>σ 0= .pointer (some ⟨b,0,none⟩)∧σ 2= .map (some mv)∧σ 3= .pointer (some ⟨nx,0,none⟩)∧σ 4= .bool pos∧σ 16= .slice la tl.length lc∧σ 17= .int .i64 tl.length∧σ 18= .int .i64 i∧i≤tl.length∧
  ∃(u':U) (vj:Strs) (nj:Nat) (acc:List Slot),Step (fun i=>pos=true∧(i=mv∨i=nx)) u h u' h'∧Own h.size u' h' (σ 11) acc∧MapB h' mv (lastL vj) nj∧nj≤vj.length∧(pos=true→Blk u' h' nx [.int .i64 vj.length])∧
   slF pos cs vi tl=acc++slF pos cs vj (tl.drop i)∧slV pos vi tl=slV pos vj (tl.drop i)∧vj.length≤vi.length+i∧acc.length=i:=⟨_,rfl⟩
 refine wpS_loop I (fun i=>tl.length - i) 0 (by
  rw[hI]
  exact⟨by simp [upd],by simp [upd],by simp [upd],by simp [upd],by simp [upd],by simp [upd],by simp [upd],Nat.zero_le _,u,vi,n,[],.refl _ _ _,by simp only[upd];exact .nil _ _ _,hM,hnv,fun hp=>(hpos hp).1,rfl,rfl,by omega,rfl⟩) ?_
 intro i σ h' hy
 rw[hI]at hy
 obtain⟨e0,e2,e3,e4,e16,e17,e18,hi,u',vj,nj,acc,st,ho,hMj,hnj,hBj,hF,hV,hvl,hal⟩:=hy
 have B':=B.step st (fun i hi hS=>by
  obtain⟨hp,rfl|rfl⟩:=hS
  ·exact(hpos hp).2.2.1 hi
  ·exact(hpos hp).2.2.2 hi)
 by_cases hlt:i<tl.length
 ·obtain⟨t,hs⟩: ∃t,tl[i]? =some t:=⟨tl[i],by simp [hlt]⟩
  have hdr:tl.drop i=t::tl.drop (i+1):=by
   obtain⟨hi',rfl⟩:=List.getElem?_eq_some_iff.1 hs
   exact List.drop_eq_getElem_cons hi'
  rw[hdr,slF_cons]at hF
  rw[hdr,slV_cons]at hV
  have hwt:=hwf t (List.mem_of_getElem? hs)
  obtain⟨tb,to,rfl,htb,htu,htz,htr⟩:=(hl.mono st.ge).row i t hs
  rw[rep_term]at htr
  simp only[Term.enc,sz_term,hvs_4,List.cons.injEq,and_true]at htr htu htz
  obtain⟨t0,t1,t2,t3⟩:=htr
  have sp:=Step.push0 S0 u' h' #[.int .i64 t.1,.int .i64 t.2.1,str t.2.2.1,.int .i64 t.2.2.2] 56
  have Y:Blk (ub u' h'.size 0) (h'.push (.cells #[.int .i64 t.1,.int .i64 t.2.1,str t.2.2.1,.int .i64 t.2.2.2] 56)) h'.size [.int .i64 t.1,.int .i64 t.2.1,str t.2.2.1,.int .i64 t.2.2.2]:=(Blk.mk (by simp only[e_psz];omega) (by simp(disch:=first|omega|(simp only[zz];try omega;done)) only[go_sem]) (by simp(disch:=first|omega|(simp only[zz];try omega;done)) only[go_sem]) (by repeat (first|(refine ub_at ?_;simp only[];done)|apply ub_zero)) (by simp(disch:=first|omega|(simp only[zz];try omega;done)) only[go_sem]))
  have Bp:=B'.step sp (fun _ _ h=>h)
  have hop:=ho.step0 sp
  have hmp:=hMj.step sp (fun h=>h)
  have stp:=st.trans0 sp
  have hvj:=slT_len pos vj t
  have next: ∀(σ':Env) (u3:U) (h3:H) (n3:Nat),σ' 0=σ 0→σ' 2=σ 2→σ' 3=σ 3→σ' 4=σ 4→σ' 16=σ 16→σ' 17=σ 17→σ' 18= .int .i64 ((i:Int)+1)→Step (fun i=>pos=true∧(i=mv∨i=nx)) u h u3 h3→Own h.size u3 h3 (σ' 11) (acc++[slotN cs (slT pos vj t) t])→
    MapB h3 mv (lastL (slT pos vj t)) n3→n3≤(slT pos vj t).length→(pos=true→Blk u3 h3 nx [.int .i64 (slT pos vj t).length])→ ∃y,I y σ' h3∧tl.length - y<tl.length - i:=fun σ' u3 h3 n3 g0 g2 g3 g4 g16 g17 g18 s3 o3 m3 l3 b3=>by
   refine⟨i+1,?_,by omega⟩
   rw[hI]
   exact⟨by rw[g0,e0],by rw[g2,e2],by rw[g3,e3],by rw[g4,e4],by rw[g16,e16],by rw[g17,e17],g18,hlt,u3,_,n3,_,s3,o3,m3,l3,b3,by rw[hF];simp,hV,by omega,by simp [hal]⟩
  have hob: ∀j,OwnB (σ 11) j→h.size≤j:=fun j hj=>ho.ge hj
  obtain⟨z1,z2,z3,z4,z5,z6,z7,z8,z9⟩:=B'.open
  by_cases hk:t.1=4
  ·have hsn:slotN cs (slT pos vj t) t=(true,lastI (slT pos vj t) t.2.2.1):=by unfold slotN;rw[if_pos hk]
   simp(disch:=first|omega|(simp only[zz];try omega;done)) only[↓reduceIte,go_sem,crSlots_L1,e2,e16,e17,e18,hlt,t0,t1,t2,t3,eq_true hk]
   refine effS_look hmp ⟨zz0,?_⟩
   have fin: ∀(r:List St) (Q:Env→H→Prop) (KP':List PanicEntry→H→Prop) (σ':Env) (u1:U) (h1:H) (n1 p:Nat),p=h1.size→Step (fun i=>pos=true∧(i=mv∨i=nx)) u h u1 h1→Own h.size u1 h1 (σ 11) acc→MapB h1 mv (lastL (slT pos vj t)) n1→n1≤(slT pos vj t).length→(pos=true→Blk u1 h1 nx [.int .i64 (slT pos vj t).length])→
     (∀a n c u3 h3,Own h.size u3 h3 (.slice a n c) (acc++[slotN cs (slT pos vj t) t])→Step (fun i=>pos=true∧(i=mv∨i=nx)) u h u3 h3→MapB h3 mv (lastL (slT pos vj t)) n1→n1≤(slT pos vj t).length→(pos=true→Blk u3 h3 nx [.int .i64 (slT pos vj t).length])→wpSts G_crSlots r Q KP' (updo σ' (some 69) (.slice a n c)) h3)→
     effS G_crSlots (.app 123 2 16 [.bool false,.int .i64 0]) (some 69) [] r Q KP' [σ 11,.slice (some ⟨p,0,none⟩) 1 1] σ' (h1.push (.cells #[.bool true,.int .i64 (lastI (slT pos vj t) t.2.2.1)] 123)):=fun r Q KP' σ' u1 h1 n1 p hp s1 o1 m1 l1 b1 hq=>
    effS_app1o hp o1 (x:=(true,lastI (slT pos vj t) t.2.2.1)) (cs:=[.bool true,.int .i64 (lastI (slT pos vj t) t.2.2.1)]) (by rw[rep_slot]) rfl rfl s1.ge.sz (by omega) fun a n c u3 h3 o3 s3 b3=>⟨by simp only[e_stab0],by
     refine hq a n c u3 h3 (by rw[hsn];exact o3) (s1.trans s3 fun j hj hB=>by have:=hob j hB;omega) (m1.step s3 fun hj=>by have:=hob _ hj;have:=hM.lt;omega) l1 (fun hp=>(b1 hp).step s3 fun hj=>by have:=hob _ hj;have:=(hpos hp).1.1;omega)⟩
   have hle:(lastL vj t.2.2.1).getD 0=lastI vj t.2.2.1:=rfl
   rw[hle]
   simp only[lookV,if_true]
   cases pos with
   |false=>
    have hst:slT false vj t=vj:=rfl
    simp(disch:=first|omega|(simp only[zz];try omega;done)) only[↓reduceIte,go_sem,e4]
    refine fin _ _ _ _ _ _ nj _ (by simp only[e_psz]) stp hop (by rw[hst];exact hmp) (by rw[hst];exact hnj) (fun hp=>by cases hp) fun a n c u3 h3 o3 s3 m3 l3 b3=> ?_
    simp(disch:=first|omega|(simp only[zz];try omega;done)) only[↓reduceIte,go_sem,e18]
    exact next _ u3 h3 nj (by simp [upd]) (by simp [upd]) (by simp [upd]) (by simp [upd]) (by simp [upd]) (by simp [upd]) (by simp [upd]) s3 (by simpa [upd]using o3) m3 l3 b3
   |true=>
    obtain⟨hb1,hne,hnb1,hnb2⟩:=hpos rfl
    have X:=hBj rfl
    have Xp:=X.step0 sp
    have hxl:=X.1
    have hml:=hMj.lt
    by_cases hnew:t.2.2.1=[95]∨t.2.2.1 ∉ vj
    ·have hst:slT true vj t=vj++[t.2.2.1]:=by
      show varT vj t=_
      unfold varT;rw[if_pos ⟨hk,hnew⟩]
     have hli:lastI (slT true vj t) t.2.2.1=vj.length:=by
      unfold lastI;rw[hst,lastL_snoc,if_pos rfl];rfl
     have hcase:(lastL vj t.2.2.1).isSome=false∨((lastL vj t.2.2.1).isSome=true∧t.2.2.1=[95]):=by
      cases hq:(lastL vj t.2.2.1).isSome with
      |false=>exact .inl rfl
      |true=>exact .inr ⟨rfl,hnew.elim id fun h=>absurd (lastL_some.1 hq) h⟩
     rw[hli]at fin
     rcases hcase with hno|⟨hyes,h95⟩
     all_goals
      first
      |simp(disch:=first|omega|(simp only[zz];try omega;done)) only[↓reduceIte,go_sem,e2,e3,e4,hno,X.at,X.2.1]
      |simp(disch:=first|omega|(simp only[zz];try omega;done)) only[↓reduceIte,go_sem,e2,e3,e4,hyes,eq_true h95,X.at,X.2.1]
      refine effS_mput (ub u' h'.size 0) hmp fun h2 s2 m2=>⟨zz0,?_⟩
      have em:putm (lastL vj) t.2.2.1 (vj.length:Int)=lastL (vj++[t.2.2.1]):=by
       funext s
       rw[lastL_snoc];rfl
      rw[em]at m2
      have X2:=Xp.step s2 (fun e=>hne (by have e:nx=mv:=e;exact e.symm))
      have o2:=hop.step s2 (fun j hj e=>by have e:j=mv:=e;have:=hob j hj;have:=hM.lt;omega)
      have hx2:=X2.1
      have sw:Step (fun i=>i=nx) (ub u' h'.size 0) h2 (ub u' h'.size 0) (hset h2 nx 0 (.int .i64 ((vj.length:Int)+1))):=Step.set _ h2 _ rfl (by rw[X2.2.2.2.1];exact Nat.le_refl _)
      have o3:=o2.step sw (fun j hj e=>by have e:j=nx:=e;have:=hob j hj;have:=hb1.1;omega)
      have m3:=m2.step sw (fun e=>hne (by have e:mv=nx:=e;exact e))
      have X3:=X2.set (i:=0) (v:= .int .i64 ((vj.length:Int)+1)) (by simp)
      have st3:Step (fun i=>true=true∧(i=mv∨i=nx)) u h _ (hset h2 nx 0 (.int .i64 ((vj.length:Int)+1))):=(stp.trans s2 (fun j _ e=>⟨rfl,.inl e⟩)).trans sw (fun j _ e=>⟨rfl,.inr e⟩)
      simp(disch:=first|omega|(simp only[zz];try omega;done)) only[↓reduceIte,go_sem,e3,X2.at,X2.2.1,X2.2.2.1]
      refine fin _ _ _ _ _ _ _ _ (by simp only[e_ssz]) st3 o3 (by rw[hst];exact m3) (by rw[hst,List.length_append];split<;>(simp only[List.length_cons,List.length_nil];omega)) (fun _=>by rw[hst,List.length_append];simpa using X3) fun a n c u3 h3 o3 s3 m3 l3 b3=> ?_
      simp(disch:=first|omega|(simp only[zz];try omega;done)) only[↓reduceIte,go_sem,e18]
      exact next _ u3 h3 _ (by simp [upd]) (by simp [upd]) (by simp [upd]) (by simp [upd]) (by simp [upd]) (by simp [upd]) (by simp [upd]) s3 (by simpa [upd]using o3) m3 l3 b3
    ·have hst:slT true vj t=vj:=by
      show varT vj t=_
      unfold varT;rw[if_neg (fun h=>hnew h.2)]
     have h95: ¬t.2.2.1=[95]:=fun h=>hnew (.inl h)
     have hyes:(lastL vj t.2.2.1).isSome=true:=lastL_some.2 (Classical.byContradiction fun h=>hnew (.inr h))
     rw[hst]at fin
     simp(disch:=first|omega|(simp only[zz];try omega;done)) only[↓reduceIte,go_sem,e4,hyes,eq_false h95]
     refine fin _ _ _ _ _ _ nj _ (by simp only[e_psz]) stp hop hmp hnj (fun _=>Xp) fun a n c u3 h3 o3 s3 m3 l3 b3=> ?_
     simp(disch:=first|omega|(simp only[zz];try omega;done)) only[↓reduceIte,go_sem,e18]
     exact next _ u3 h3 nj (by simp [upd]) (by simp [upd]) (by simp [upd]) (by simp [upd]) (by simp [upd]) (by simp [upd]) (by simp [upd]) s3 (by rw[hst];simpa [upd]using o3) (by rw[hst];exact m3) (by rw[hst];exact l3) (by rw[hst];exact b3)
  ·have hst:slT pos vj t=vj:=by unfold slT varT;split;rw[if_neg (fun h=>hk h.1)];rfl
   have hsn:slotN cs (slT pos vj t) t=(false,idL cs (cnst t)):=by unfold slotN;rw[if_neg hk]
   simp(disch:=first|omega|(simp only[zz];try omega;done)) only[↓reduceIte,go_sem,crSlots_L1,e0,e16,e17,e18,hlt,t0,t1,t2,t3,eq_false hk,z1,z8]
   refine effS_call ⟨rfl,ub u' h'.size 0,t,rfl,fun u1 h1 s1=> ?_⟩
   have B1:=Bp.step s1 (fun _ _ h=>h)
   obtain⟨w1,w2,w3,w4,w5,w6,w7,w8,w9⟩:=B1.open
   refine⟨by simp(disch:=first|omega|(simp only[zz];try omega;done)) only[↓reduceIte,go_sem,e0,z8,w1,w8],?_⟩
   have o1:=hop.step0 s1
   have m1:=hmp.step s1 (fun h=>h)
   simp(disch:=first|omega|(simp only[zz];try omega;done)) only[↓reduceIte,go_sem]
   refine effS_lookg (ks:=ksC) (enc:=encC) (s:=cnst t) encC_inj (keyC hwt) B1.mC ⟨zz0,?_⟩
   have hid:(posL cs (cnst t)).getD 0=idL cs (cnst t):=rfl
   rw[hid]
   simp only[lookV,Bool.false_eq_true,if_false]
   simp(disch:=first|omega|(simp only[zz];try omega;done)) only[↓reduceIte,go_sem]
   have st1:=stp.trans0 s1
   refine effS_app1o rfl o1 (x:=(false,idL cs (cnst t))) (cs:=[.bool false,.int .i64 (idL cs (cnst t))]) (by rw[rep_slot]) rfl rfl st1.ge.sz (by omega) fun a n c u3 h3 o3 s3 b3=>⟨zz0,?_⟩
   simp(disch:=first|omega|(simp only[zz];try omega;done)) only[↓reduceIte,go_sem,e18]
   have hjl:=m1.lt
   have hm1: ¬OwnB (σ 11) mv:=fun hj=>by have:=hob _ hj;have:=hM.lt;omega
   exact next _ u3 h3 nj (by simp [upd]) (by simp [upd]) (by simp [upd]) (by simp [upd]) (by simp [upd]) (by simp [upd]) (by simp [upd]) (st1.trans s3 fun j hj hB=>by have:=hob j hB;omega) (by rw[hsn];simpa [upd]using o3) (by rw[hst];exact m1.step s3 hm1) (by rw[hst];exact hnj)
    (fun hp=>by
     have X:=(((hBj hp).step0 sp).step0 s1).step s3 (fun hj=>by have:=hob _ hj;have:=(hpos hp).1.1;omega)
     rw[hst];exact X)
 ·obtain rfl:i=tl.length:=by omega
  rw[List.drop_length,slF_nil,List.append_nil]at hF
  rw[List.drop_length,slV_nil]at hV
  simp(disch:=first|omega|(simp only[zz];try omega;done)) only[↓reduceIte,go_sem,crSlots_L1,e17,e18]
  exact hK _ _ _ _ st (by rw[hF];exact ho) (by rw[hV];exact hMj) (by rw[hV];exact hnj) (by rw[hV];exact hBj)
end Go.Proofs.YtmjinnbdnpedcaaGreat
