import Derived.Test.YtmjinnbdnpedcaaGreatCbL
import Derived.Test.YtmjinnbdnpedcaaGreatCbY
section Merged
namespace Go.Proofs.YtmjinnbdnpedcaaGreat
open Go Go.Ev Edict
variable {vs:List Value} {h:H} {K:Value→H→Prop} {KP:List PanicEntry→H→Prop}
def C_sameS(α:Type) [Rep α](vs:List Value)(h:H)(K:Value→H→Prop):Prop:= ∃(u:U) (v w:Value) (l:List α),vs=[v,w]∧IsSl u h v l∧IsSl u h w l∧ ∀u' h',Step S0 u h u' h'→K (.bool true) h'
theorem lwSlots_ok(hC:C_sameS Slot vs h K):HCX Tryz.prog 58 vs h K KP:=by
 obtain⟨u,v,w,l,rfl,ha,hb,hK⟩:=hC
 obtain⟨aa,ac,rfl,q1,q2⟩:=ha.sl
 obtain⟨ba,bc,rfl,-,-⟩:=hb.sl
 have hm:=mlen'
 refine lwSlots_H (fun _ _ _ _ _=>False) (fun _ _ _ _ _ h=>h.elim) _ _ ?_
 simp(disch:=first|omega|(simp only[zz];try omega;done)) only[↓reduceIte,go_sem,lwSlots_S,lwSlots_E]
 obtain⟨I,hI⟩: ∃I:Nat→Env→H→Prop,I=fun i σ h'=>σ 0= .slice aa l.length ac∧σ 1= .slice ba l.length bc∧σ 5= .int .i64 i∧i≤l.length∧h'=h:=⟨_,rfl⟩
 refine wpS_loop I (fun i=>l.length - i) 0 (by rw[hI];exact⟨by simp [upd],by simp [upd],by simp [upd],Nat.zero_le _,rfl⟩) ?_
 intro i σ h' hy
 rw[hI]at hy
 obtain⟨e0,e1,e5,hi,rfl⟩:=hy
 by_cases hlt:i<l.length
 ·obtain⟨x,hs⟩: ∃x,l[i]? =some x:=⟨l[i],by simp [hlt]⟩
  obtain⟨pb,po,rfl,hpb,hpu,hpz,hpr⟩:=ha.row i x hs
  obtain⟨qb,qo,rfl,hqb,hqu,hqz,hqr⟩:=hb.row i x hs
  simp only[rep_slot,sz_slot,hvs_2,List.cons.injEq,and_true]at hpr hpu hpz hqr hqu hqz
  simp(disch:=first|omega|(simp only[zz];try omega;done)) only[↓reduceIte,go_sem,lwSlots_L1,e0,e1,e5,hlt,hpr.1,hpr.2,hqr.1,hqr.2]
  refine⟨i+1,?_,by omega⟩
  rw[hI]
  exact⟨by simp [upd,e0],by simp [upd,e1],by simp [upd],hlt,rfl⟩
 ·obtain rfl:i=l.length:=by omega
  simp(disch:=first|omega|(simp only[zz];try omega;done)) only[↓reduceIte,go_sem,lwSlots_L1,e0,e5]
  exact hK u _ (.refl _ _ _)
theorem lwTests_ok(hC:C_sameS Test vs h K):HCX Tryz.prog 70 vs h K KP:=by
 obtain⟨u,v,w,l,rfl,ha,hb,hK⟩:=hC
 obtain⟨aa,ac,rfl,q1,q2⟩:=ha.sl
 obtain⟨ba,bc,rfl,-,-⟩:=hb.sl
 have hm:=mlen'
 refine lwTests_H (fun _ _ _ _ _=>False) (fun _ _ _ _ _ h=>h.elim) _ _ ?_
 simp(disch:=first|omega|(simp only[zz];try omega;done)) only[↓reduceIte,go_sem,lwTests_S,lwTests_E]
 obtain⟨I,hI⟩: ∃I:Nat→Env→H→Prop,I=fun i σ h'=>σ 0= .slice aa l.length ac∧σ 1= .slice ba l.length bc∧σ 5= .int .i64 i∧i≤l.length∧h'=h:=⟨_,rfl⟩
 refine wpS_loop I (fun i=>l.length - i) 0 (by rw[hI];exact⟨by simp [upd],by simp [upd],by simp [upd],Nat.zero_le _,rfl⟩) ?_
 intro i σ h' hy
 rw[hI]at hy
 obtain⟨e0,e1,e5,hi,rfl⟩:=hy
 by_cases hlt:i<l.length
 ·obtain⟨x,hs⟩: ∃x,l[i]? =some x:=⟨l[i],by simp [hlt]⟩
  obtain⟨pb,po,rfl,hpb,hpu,hpz,hpr⟩:=ha.row i x hs
  obtain⟨qb,qo,rfl,hqb,hqu,hqz,hqr⟩:=hb.row i x hs
  simp only[rep_test,sz_test,hvs_5,List.cons.injEq,and_true]at hpr hpu hpz hqr hqu hqz
  obtain⟨p0,p1,p2,p3,p4⟩:=hpr
  obtain⟨g0,g1,g2,g3,g4⟩:=hqr
  simp(disch:=first|omega|(simp only[zz];try omega;done)) only[↓reduceIte,go_sem,lwTests_L1,e0,e1,e5,hlt,p0,p1,p2,p3,p4,g0,g1,g2,g3,g4]
  refine⟨i+1,?_,by omega⟩
  rw[hI]
  exact⟨by simp [upd,e0],by simp [upd,e1],by simp [upd],hlt,rfl⟩
 ·obtain rfl:i=l.length:=by omega
  simp(disch:=first|omega|(simp only[zz];try omega;done)) only[↓reduceIte,go_sem,lwTests_L1,e0,e5]
  exact hK u _ (.refl _ _ _)
def G_lwPatterns:Ctr:=fun f vs h K _=>f=58∧C_sameS Slot vs h K
theorem G_lwPatterns_ok:GOk Tryz.prog G_lwPatterns:=by
 rintro f vs h K KP ⟨rfl,hC⟩;exact lwSlots_ok hC
theorem lwPatterns_ok(hC:C_sameS Pattern vs h K):HCX Tryz.prog 69 vs h K KP:=by
 obtain⟨u,v,w,l,rfl,ha,hb,hK⟩:=hC
 obtain⟨aa,ac,rfl,q1,q2⟩:=ha.sl
 obtain⟨ba,bc,rfl,-,-⟩:=hb.sl
 have hm:=mlen'
 refine lwPatterns_H G_lwPatterns G_lwPatterns_ok _ _ ?_
 simp(disch:=first|omega|(simp only[zz];try omega;done)) only[↓reduceIte,go_sem,lwPatterns_S,lwPatterns_E]
 obtain⟨I,hI⟩: ∃I:Nat→Env→H→Prop,I=fun i σ h'=>σ 0= .slice aa l.length ac∧σ 1= .slice ba l.length bc∧σ 5= .int .i64 i∧i≤l.length∧ ∃u',Step S0 u h u' h':=⟨_,rfl⟩
 refine wpS_loop I (fun i=>l.length - i) 0 (by rw[hI];exact⟨by simp [upd],by simp [upd],by simp [upd],Nat.zero_le _,u,.refl _ _ _⟩) ?_
 intro i σ h' hy
 rw[hI]at hy
 obtain⟨e0,e1,e5,hi,u',st⟩:=hy
 by_cases hlt:i<l.length
 ·obtain⟨x,hs⟩: ∃x,l[i]? =some x:=⟨l[i],by simp [hlt]⟩
  obtain⟨pb,po,rfl,hpb,hpu,hpz,hpr⟩:=(ha.mono st.ge).row i x hs
  obtain⟨qb,qo,rfl,hqb,hqu,hqz,hqr⟩:=(hb.mono st.ge).row i x hs
  rw[rep_pattern]at hpr hqr
  obtain⟨pv,hpr,ip⟩:=hpr
  obtain⟨qv,hqr,iq⟩:=hqr
  simp only[sz_pattern,hvs_2,List.cons.injEq,and_true]at hpr hpu hpz hqr hqu hqz
  simp(disch:=first|omega|(simp only[zz];try omega;done)) only[↓reduceIte,go_sem,lwPatterns_L1,e0,e1,e5,hlt,hpr.1,hpr.2,hqr.1,hqr.2]
  refine effS_call ⟨rfl,u',_,_,x.2,rfl,ip,iq,fun u2 h2 s2=>⟨zz0,?_⟩⟩
  simp(disch:=first|omega|(simp only[zz];try omega;done)) only[↓reduceIte,go_sem,e5]
  refine⟨i+1,?_,by omega⟩
  rw[hI]
  exact⟨by simp [upd,e0],by simp [upd,e1],by simp [upd],hlt,u2,st.trans0 s2⟩
 ·obtain rfl:i=l.length:=by omega
  simp(disch:=first|omega|(simp only[zz];try omega;done)) only[↓reduceIte,go_sem,lwPatterns_L1,e0,e5]
  exact hK u' _ st
def G_lwRows:Ctr:=fun f vs h K _=>f=42∧C_alike vs h K
theorem G_lwRows_ok:GOk Tryz.prog G_lwRows:=by
 rintro f vs h K KP ⟨rfl,hC⟩;exact rfAlike_ok hC
theorem lwRows_ok(hC:C_sameS Row vs h K):HCX Tryz.prog 30 vs h K KP:=by
 obtain⟨u,v,w,l,rfl,ha,hb,hK⟩:=hC
 obtain⟨aa,ac,rfl,q1,q2⟩:=ha.sl
 obtain⟨ba,bc,rfl,-,-⟩:=hb.sl
 have hm:=mlen'
 refine lwRows_H G_lwRows G_lwRows_ok _ _ ?_
 simp(disch:=first|omega|(simp only[zz];try omega;done)) only[↓reduceIte,go_sem,lwRows_S,lwRows_E]
 obtain⟨I,hI⟩: ∃I:Nat→Env→H→Prop,I=fun i σ h'=>σ 0= .slice aa l.length ac∧σ 1= .slice ba l.length bc∧σ 5= .int .i64 i∧i≤l.length∧ ∃u',Step S0 u h u' h':=⟨_,rfl⟩
 refine wpS_loop I (fun i=>l.length - i) 0 (by rw[hI];exact⟨by simp [upd],by simp [upd],by simp [upd],Nat.zero_le _,u,.refl _ _ _⟩) ?_
 intro i σ h' hy
 rw[hI]at hy
 obtain⟨e0,e1,e5,hi,u',st⟩:=hy
 by_cases hlt:i<l.length
 ·obtain⟨x,hs⟩: ∃x,l[i]? =some x:=⟨l[i],by simp [hlt]⟩
  obtain⟨pb,po,rfl,hpb,hpu,hpz,hpr⟩:=(ha.mono st.ge).row i x hs
  obtain⟨qb,qo,rfl,hqb,hqu,hqz,hqr⟩:=(hb.mono st.ge).row i x hs
  have hprs:=hpr
  have hqrs:=hqr
  rw[rep_row]at hpr hqr
  obtain⟨pv,hpr,ip⟩:=hpr
  obtain⟨qv,hqr,iq⟩:=hqr
  rw[hpr]at hprs
  rw[hqr]at hqrs
  simp only[sz_row,hvs_2,List.cons.injEq,and_true]at hpr hpu hpz hqr hqu hqz
  simp(disch:=first|omega|(simp only[zz];try omega;done)) only[↓reduceIte,go_sem,lwRows_L1,e0,e1,e5,hlt,hpr.1,hpr.2,hqr.1,hqr.2]
  refine effS_call ⟨rfl,u',x,x,[.int .i64 x.1,pv],[.int .i64 x.1,qv],rfl,hprs,hqrs,fun u2 h2 s2=>⟨zz0,?_⟩⟩
  simp(disch:=first|omega|(simp only[zz];try omega;done)) only[↓reduceIte,go_sem,e5,decide_true]
  refine⟨i+1,?_,by omega⟩
  rw[hI]
  exact⟨by simp [upd,e0],by simp [upd,e1],by simp [upd],hlt,u2,st.trans0 s2⟩
 ·obtain rfl:i=l.length:=by omega
  simp(disch:=first|omega|(simp only[zz];try omega;done)) only[↓reduceIte,go_sem,lwRows_L1,e0,e5]
  exact hK u' _ st
def C_sameR(α:Type) [Rep α](vs:List Value)(h:H)(K:Value→H→Prop):Prop:= ∃(u:U) (x:α) (la lb:List Value),vs=[.agg la.toArray,.agg lb.toArray]∧Rep.rep u h x la∧Rep.rep u h x lb∧ ∀u' h',Step S0 u h u' h'→K (.bool true) h'
def G_lwBodies:Ctr:=fun f vs h K _=>(f=69∧C_sameS Pattern vs h K)∨(f=70∧C_sameS Test vs h K)∨(f=71∧C_names vs h K)
theorem G_lwBodies_ok:GOk Tryz.prog G_lwBodies:=by
 rintro f vs h K KP (⟨rfl,hC⟩|⟨rfl,hC⟩|⟨rfl,hC⟩)
 ·exact lwPatterns_ok hC
 ·exact lwTests_ok hC
 ·exact lwNames_ok hC
theorem lwBodies_ok(hC:C_sameR Rule vs h K):HCX Tryz.prog 57 vs h K KP:=by
 obtain⟨u,r,la,lb,rfl,ha,hb,hK⟩:=hC
 rw[rep_rule]at ha hb
 obtain⟨a0,a1,a2,a3,a4,rfl,i0,i1,i2,i3,i4⟩:=ha
 obtain⟨b0,b1,b2,b3,b4,rfl,j0,j1,j2,j3,j4⟩:=hb
 refine lwBodies_H G_lwBodies G_lwBodies_ok _ _ ?_
 have s1:=Step.push0 S0 u h #[.int .i64 r.1.1,a0,a1,a2,a3,a4,.int .i64 r.2.2.2.2.2] 79
 have B1:=Blk.new (u:=u) (h:=h) [.int .i64 r.1.1,a0,a1,a2,a3,a4,.int .i64 r.2.2.2.2.2] 79
 have s2:=Step.push0 S0 (ub u h.size 0) (h.push (.cells #[.int .i64 r.1.1,a0,a1,a2,a3,a4,.int .i64 r.2.2.2.2.2] 79)) #[.int .i64 r.1.1,b0,b1,b2,b3,b4,.int .i64 r.2.2.2.2.2] 79
 have B2:=Blk.new (u:=ub u h.size 0) (h:=h.push (.cells #[.int .i64 r.1.1,a0,a1,a2,a3,a4,.int .i64 r.2.2.2.2.2] 79)) [.int .i64 r.1.1,b0,b1,b2,b3,b4,.int .i64 r.2.2.2.2.2] 79
 have B1:=B1.step0 s2
 have st2:=s1.trans0 s2
 simp only[e_psz]at B2
 obtain⟨u2,hu2⟩: ∃u2,u2=ub (ub u h.size 0) (h.size+1) 0:=⟨_,rfl⟩
 simp only[e_psz]at st2 B1
 rw[←hu2]at B1 B2 st2
 simp(disch:=first|omega|(simp only[zz];try omega;done)) only[↓reduceIte,go_sem,lwBodies_S,lwBodies_E]
 refine effS_call (.inl ⟨rfl,u2,_,_,r.2.1,rfl,i1.mono st2.ge,j1.mono st2.ge,fun u3 h3 s3=>⟨zz0,?_⟩⟩)
 have st3:=st2.trans0 s3
 have C1:=B1.step0 s3
 have C2:=B2.step0 s3
 have c1l:=C1.1
 have c2l:=C2.1
 simp(disch:=first|omega|(simp only[zz];try omega;done)) only[↓reduceIte,go_sem,C1.at,C1.2.1,C2.at,C2.2.1]
 refine effS_call (.inr (.inl ⟨rfl,u3,_,_,r.2.2.1,rfl,i2.mono st3.ge,j2.mono st3.ge,fun u4 h4 s4=>⟨zz0,?_⟩⟩))
 have st4:=st3.trans0 s4
 have D1:=C1.step0 s4
 have D2:=C2.step0 s4
 have d1l:=D1.1
 have d2l:=D2.1
 simp(disch:=first|omega|(simp only[zz];try omega;done)) only[↓reduceIte,go_sem,D1.at,D1.2.1,D2.at,D2.2.1]
 refine effS_call (.inl ⟨rfl,u4,_,_,r.2.2.2.1,rfl,i3.mono st4.ge,j3.mono st4.ge,fun u5 h5 s5=>⟨zz0,?_⟩⟩)
 have st5:=st4.trans0 s5
 have E1:=D1.step0 s5
 have E2:=D2.step0 s5
 have e1l:=E1.1
 have e2l:=E2.1
 simp(disch:=first|omega|(simp only[zz];try omega;done)) only[↓reduceIte,go_sem,E1.at,E1.2.1,E2.at,E2.2.1]
 refine effS_call (.inr (.inr ⟨rfl,u5,_,_,r.2.2.2.2.1,rfl,i4.mono st5.ge,j4.mono st5.ge,by simp(disch:=first|omega|(simp only[zz];try omega;done)) only[go_sem],?_⟩))
 simp(disch:=first|omega|(simp only[zz];try omega;done)) only[↓reduceIte,go_sem]
 exact hK _ _ st5
def G_lwRules:Ctr:=fun f vs h K _=>(f=57∧C_sameR Rule vs h K)∨(f=58∧C_sameS Slot vs h K)
theorem G_lwRules_ok:GOk Tryz.prog G_lwRules:=by
 rintro f vs h K KP (⟨rfl,hC⟩|⟨rfl,hC⟩)
 ·exact lwBodies_ok hC
 ·exact lwSlots_ok hC
theorem lwRules_ok(hC:C_sameR Rule vs h K):HCX Tryz.prog 31 vs h K KP:=by
 obtain⟨u,r,la,lb,rfl,ha,hb,hK⟩:=hC
 have har:=ha
 have hbr:=hb
 rw[rep_rule]at ha hb
 obtain⟨a0,a1,a2,a3,a4,rfl,i0,i1,i2,i3,i4⟩:=ha
 obtain⟨b0,b1,b2,b3,b4,rfl,j0,j1,j2,j3,j4⟩:=hb
 refine lwRules_H G_lwRules G_lwRules_ok _ _ ?_
 have s1:=Step.push0 S0 u h #[.int .i64 r.1.1,a0,a1,a2,a3,a4,.int .i64 r.2.2.2.2.2] 79
 have B1:=Blk.new (u:=u) (h:=h) [.int .i64 r.1.1,a0,a1,a2,a3,a4,.int .i64 r.2.2.2.2.2] 79
 have s2:=Step.push0 S0 (ub u h.size 0) (h.push (.cells #[.int .i64 r.1.1,a0,a1,a2,a3,a4,.int .i64 r.2.2.2.2.2] 79)) #[.int .i64 r.1.1,b0,b1,b2,b3,b4,.int .i64 r.2.2.2.2.2] 79
 have B2:=Blk.new (u:=ub u h.size 0) (h:=h.push (.cells #[.int .i64 r.1.1,a0,a1,a2,a3,a4,.int .i64 r.2.2.2.2.2] 79)) [.int .i64 r.1.1,b0,b1,b2,b3,b4,.int .i64 r.2.2.2.2.2] 79
 have B1:=B1.step0 s2
 have st2:=s1.trans0 s2
 simp only[e_psz]at B2
 obtain⟨u2,hu2⟩: ∃u2,u2=ub (ub u h.size 0) (h.size+1) 0:=⟨_,rfl⟩
 simp only[e_psz]at st2 B1
 rw[←hu2]at B1 B2 st2
 simp(disch:=first|omega|(simp only[zz];try omega;done)) only[↓reduceIte,go_sem,lwRules_S,lwRules_E]
 refine effS_call (.inl ⟨rfl,u2,r,[.int .i64 r.1.1,a0,a1,a2,a3,a4,.int .i64 r.2.2.2.2.2],[.int .i64 r.1.1,b0,b1,b2,b3,b4,.int .i64 r.2.2.2.2.2],rfl,Rep.mono st2.ge har,Rep.mono st2.ge hbr,fun u3 h3 s3=>⟨zz0,?_⟩⟩)
 have st3:=st2.trans0 s3
 have C1:=B1.step0 s3
 have C2:=B2.step0 s3
 have c1l:=C1.1
 have c2l:=C2.1
 simp(disch:=first|omega|(simp only[zz];try omega;done)) only[↓reduceIte,go_sem,C1.at,C1.2.1,C2.at,C2.2.1]
 refine effS_call (.inr ⟨rfl,u3,_,_,r.1.2,rfl,i0.mono st3.ge,j0.mono st3.ge,fun u4 h4 s4=>⟨zz0,?_⟩⟩)
 simp(disch:=first|omega|(simp only[zz];try omega;done)) only[↓reduceIte,go_sem]
 exact hK _ _ (st3.trans0 s4)
end Go.Proofs.YtmjinnbdnpedcaaGreat
end Merged
section Merged
namespace Edict
theorem firstsF_nodup: ∀(l:List Put) (seen:List Const),seen.Nodup→(seen++(firstsF seen l).map fun x=>cnst x.1).Nodup
 |[],seen,h=>by simpa [firstsF]using h
 |x::l,seen,h=>by
  by_cases hx:x.1.1=4∨cnst x.1∈seen
  ·rw[firstsF_in hx];exact firstsF_nodup l seen h
  ·rw[firstsF_new hx,List.map_cons]
   have hn:cnst x.1 ∉ seen:=fun e=>hx (.inr e)
   have:=firstsF_nodup l (seen++[cnst x.1]) (List.nodup_append.2 ⟨h,List.nodup_cons.2 ⟨by simp,List.nodup_nil⟩,fun a ha b hb e=>by rcases List.mem_singleton.1 hb with rfl;exact hn (e▸ha)⟩)
   rw[List.append_assoc]at this
   exact this
end Edict
namespace Go.Proofs.YtmjinnbdnpedcaaGreat
open Go Go.Ev Edict
theorem rT10_ok {K:Value→H→Prop} {KP:List PanicEntry→H→Prop} {u0:U} {h0:H} {p:List Clause} {fs:List Atom} {la fa:Option Addr} {lc fc:Nat} {σ:Env} {u:U} {h:H} {ps:List Pred} {F:List Put} {vP vL:Value}
  (X:BX u0 h0 p.length fs.length la fa lc fc σ u h) (e8:σ 8=vP) (iP:IsSl u h vP ps) (e13:σ 13=vL) (iL:IsSl u h vL F) (hF:F.length≤65536) (hFn:(F.map fun x=>cnst x.1).Nodup) (hFt:TxtP F)
  (hl:IsSl u0 h0 (.slice la p.length lc) p) (hp5:p.length≤512) (hcl: ∀c∈p,ClOk (F.map fun x=>cnst x.1) c) (hf:IsSl u0 h0 (.slice fa fs.length fc) fs) (hf4:fs.length≤4096) (hfa: ∀a∈fs,a.2.1.length≤8∧ ∀t∈a.2.1,cnst t∈F.map fun x=>cnst x.1)
  (hb:refF p fs=(refC p fs ps (F.map fun x=>cnst x.1),0,0,0)) (hK:Kb u0 h0 p fs K):wpS G_rfBuild rT10 (retQ rfBuild_E (callK K KP)) σ h:=by
 have hm:=mlen'
 obtain⟨pa,pc,rfl,q1,q2⟩:=iP.sl
 obtain⟨wa,wc,rfl,q3,q4⟩:=iL.sl
 rw[rT10_cut,rT11_cut,rT12_cut]
 have sX:=Step.push0 S0 u h #[.slice pa ps.length pc,.slice none 0 0,.slice none 0 0,.slice none 0 0] 31
 have C1:=Blk.new (u:=u) (h:=h) [.slice pa ps.length pc,.slice none 0 0,.slice none 0 0,.slice none 0 0] 31
 have hz:=X.z
 simp(disch:=first|omega|(simp only[zz];try omega;done)) only[↓reduceIte,go_sem,rT12,rT11,rT10,rT9,rT8,rT7,rT6,rT5,rT4,rT3,rT2,rT1,rfBuild_S,sS,sF,e8]
 obtain⟨I,hI⟩: ∃I:Nat→Env→H→Prop,I=fun i σ h'=>σ 13= .slice wa F.length wc∧σ 15= .pointer (some ⟨h.size,0,none⟩)∧σ 16= .int .i64 i∧σ 8= .slice pa ps.length pc∧i≤F.length∧ ∃u' w,BX u0 h0 p.length fs.length la fa lc fc σ u' h'∧Step S0 u h u' h'∧Blk u' h' h.size [.slice pa ps.length pc,w,.slice none 0 0,.slice none 0 0]∧h.size+1≤h'.size∧Own (h.size+1) u' h' w ((F.take i).map fun x=>cnst x.1):=⟨_,rfl⟩
 refine wpS_loop I (fun i=>F.length - i) 0 (by
  rw[hI]
  exact⟨by simp [upd,e13],by simp [upd],by simp [upd],by simp [upd,e8],Nat.zero_le _,_,_,X.go sX (fun _ e=>e.elim) (by simp [upd]) (by simp [upd]) (by simp [upd]) (by simp [upd]),sX,C1,by simp only[e_psz];omega,.nil _ _ _⟩) ?_
 clear sX C1
 intro i τ h' hy
 rw[hI]at hy
 obtain⟨f13,f15,f16,f8,hi,u',w,X1,st,C,hz1,ow⟩:=hy
 obtain⟨oa,oc,rfl,-,-⟩:=ow.sl
 have cl:=C.1
 by_cases hlt:i<F.length
 ·obtain⟨x,hs⟩: ∃x,F[i]? =some x:=⟨F[i],by simp [hlt]⟩
  obtain⟨pb,po,rfl,hpb,hpu,hpz,hpr⟩:=(iL.mono st.ge).row i x hs
  simp only[rep_put,Put.enc,sz_put,hvs_6,List.cons.injEq,and_true]at hpr hpu hpz
  obtain⟨p0,p1,p2,p3,p4,p5⟩:=hpr
  have hln:((F.take i).map fun x=>cnst x.1).length≤i:=by rw[List.length_map,List.length_take];exact Nat.min_le_left _ _
  have htk:=take_map_snoc (f:=fun x:Put=>cnst x.1) hs
  obtain⟨Z,hZ⟩: ∃Z,Z=(F.take i).map fun x=>cnst x.1:=⟨_,rfl⟩
  rw[←hZ]at ow hln htk C
  simp(disch:=first|omega|(simp only[zz];try omega;done)) only[↓reduceIte,go_sem,rfBuild_L2,f13,f15,f16,hlt,p0,p1,p2,p3,C.at,C.2.1]
  refine effS_call (.inr (.inr (.inr (.inr (.inr (.inl ⟨rfl,u',x.1,rfl,fun u4 h4 s4=> ?_⟩))))))
  have C4:=C.step0 s4
  have c4l:=C4.1
  refine⟨by simp(disch:=first|omega|(simp only[zz];try omega;done)) only[↓reduceIte,go_sem,f15,C.at,C4.at,C4.2.1],?_⟩
  have st4:=st.trans0 s4
  have ow4:=ow.step0 s4
  have hz4:=s4.ge.sz
  have hce:(Const.enc (cnst x.1)).toArray= #[.int .i64 x.1.1,.int .i64 x.1.2.1,str x.1.2.2.1]:=rfl
  have hrc:Rep.rep u4 h4 (cnst x.1) [.int .i64 x.1.1,.int .i64 x.1.2.1,str x.1.2.2.1]:=by rw[rep_const];rfl
  simp(disch:=first|omega|(simp only[zz];try omega;done)) only[↓reduceIte,go_sem,f15,hce,C4.at,C4.2.1]
  refine effS_app1o (e':=60) (cs:=[.int .i64 x.1.1,.int .i64 x.1.2.1,str x.1.2.2.1]) rfl ow4 hrc rfl rfl (by omega) (by omega) fun a9 n9 c9 u9 h9 o9 s9 w9=>⟨zz0,?_⟩
  obtain⟨xa9,xc9,hx9,-,-⟩:=o9.sl
  cases hx9
  have C9:=C4.step s9 fun hj=>by have:=ow4.ge hj;omega
  have c9l:=C9.1
  have sw:=C9.stepSet (i:=1) (v:= .slice a9 (Z++[cnst x.1]).length c9)
  have C10:Blk u9 (hset h9 h.size 1 (.slice a9 (Z++[cnst x.1]).length c9)) h.size [.slice pa ps.length pc,.slice a9 (Z++[cnst x.1]).length c9,.slice none 0 0,.slice none 0 0]:=C9.set (i:=1) (v:= .slice a9 (Z++[cnst x.1]).length c9) (by simp)
  have o10:=o9.step sw fun b hb e=>by have e:b=h.size:=e;have:=o9.ge hb;omega
  have st10:=(st4.own s9 fun j hj=>by have:=ow4.ge hj;omega).own sw fun j e=>by have e:j=h.size:=e;omega
  have hz10:=Nat.le_trans s9.ge.sz sw.ge.sz
  have X10:=((X1.go (σ':=τ) s4 (fun _ e=>e.elim) rfl rfl rfl rfl).go (σ':=τ) s9 (fun j hj=>by have:=ow4.ge hj;omega) rfl rfl rfl rfl).go (σ':=τ) sw (fun j e=>by have e:j=h.size:=e;omega) rfl rfl rfl rfl
  have hle:(Z++[cnst x.1]).length=Z.length+1:=by rw[List.length_append];rfl
  simp(disch:=first|omega|(simp only[zz];try omega;done)) only[↓reduceIte,go_sem,f15,f16,C9.2.1,C9.2.2.1]
  rw[←hle]
  refine⟨i+1,?_,by omega⟩
  rw[hI]
  exact⟨by simp [upd,f13],by simp [upd,f15],by simp [upd],by simp [upd,f8],hlt,u9,.slice a9 (Z++[cnst x.1]).length c9,X10.go (Step.refl S0 _ _) (fun _ e=>e.elim) (by simp [upd]) (by simp [upd]) (by simp [upd]) (by simp [upd]),st10,C10,by omega,by rw[htk];exact o10⟩
 ·obtain rfl:i=F.length:=by omega
  rw[List.take_length]at ow C
  obtain⟨cs,hcs⟩: ∃cs,cs=F.map fun x=>cnst x.1:=⟨_,rfl⟩
  have hcsl:cs.length≤65536:=by rw[hcs,List.length_map];exact hF
  rw[←hcs]at ow C hFn hcl hfa hb
  have iC:=ow.isSl
  simp(disch:=first|omega|(simp only[zz];try omega;done)) only[↓reduceIte,go_sem,rfBuild_L2,f13,f15,f16,C.at,C.2.1]
  refine effS_call (.inr (.inr (.inr (.inr (.inl ⟨rfl,u',_,cs,rfl,iC,hcsl,hFn,fun c hc=>by
   rw[hcs]at hc
   obtain⟨x,hx,rfl⟩:=List.mem_map.1 hc
   exact hFt x hx,fun u4 h4 bb s4 hbb hB=>⟨zz0,?_⟩⟩)))))
  have C4:=C.step0 s4
  have sY:=Step.push0 S0 u4 h4 #[.slice pa ps.length pc,.pointer (some ⟨bb,0,none⟩)] 66
  have Fr:=Blk.new (u:=u4) (h:=h4) [.slice pa ps.length pc,.pointer (some ⟨bb,0,none⟩)] 66
  have s5:=s4.trans0 sY
  have hbl:bb<h4.size:=by obtain⟨_,_,_,_,hb,-⟩:=hB.ex;exact hb.1
  have hz4:=s4.ge.sz
  simp(disch:=first|omega|(simp only[zz];try omega;done)) only[↓reduceIte,go_sem,f8]
  have hnil: ∀j:Nat,¬OwnB (.slice none 0 0) j:=fun j hj=>by obtain⟨_,_,_,e⟩:=hj;cases e
  refine rT13_ok (k:=h4.size+1) (b:=h.size) (f:=h4.size) (ps:=ps) (cs:=cs) (X1.go s5 (fun _ e=>e.elim) (by simp [upd]) (by simp [upd]) (by simp [upd]) (by simp [upd])) ⟨by simp [upd,f15],by simp [upd],by omega,C4.step0 sY,⟨_,bb,by omega,by omega,Fr,((iP.mono st.ge).mono s5.ge),hB.step0 sY⟩,(iP.mono st.ge).mono s5.ge,iC.mono s5.ge,.nil _ _ _,.nil _ _ _,fun j hj=>absurd hj (hnil j),by simp only[e_psz];omega⟩ hz hl hp5 hcl hf hf4 hfa hb hK
end Go.Proofs.YtmjinnbdnpedcaaGreat
end Merged
