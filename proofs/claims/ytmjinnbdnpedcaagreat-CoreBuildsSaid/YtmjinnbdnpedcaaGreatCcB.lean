import Derived.Test.YtmjinnbdnpedcaaGreatCbZ
import Derived.Test.YtmjinnbdnpedcaaGreatCcA
section Merged
namespace Go.Ev
open Go Edict
theorem rep_coreV{u:U}{h:H}{k:Core}{cs:List Value}:Rep.rep u h k cs= ∃v0 v1 v2 v3,cs=[v0,v1,v2,v3]∧IsSl u h v0 k.1∧IsSl u h v1 k.2.1∧IsSl u h v2 k.2.2.1∧IsSl u h v3 k.2.2.2:=by
 rw[rep_prod];simp only[rep_prod (β:=List Rule×List Row),rep_prod (α:=List Rule) (β:=List Row),rep_list];apply propext;constructor
 ·rintro ⟨_,_,rfl,⟨v0,rfl,h0⟩,_,_,rfl,⟨v1,rfl,h1⟩,_,_,rfl,⟨v2,rfl,h2⟩,v3,rfl,h3⟩;exact⟨v0,v1,v2,v3,rfl,h0,h1,h2,h3⟩
 ·rintro ⟨v0,v1,v2,v3,rfl,h0,h1,h2,h3⟩;exact⟨_,_,rfl,⟨v0,rfl,h0⟩,_,_,rfl,⟨v1,rfl,h1⟩,_,_,rfl,⟨v2,rfl,h2⟩,v3,rfl,h3⟩
end Go.Ev
namespace Go.Proofs.YtmjinnbdnpedcaaGreat
open Go Go.Ev Edict
variable {vs:List Value} {h:H} {K:Value→H→Prop} {KP:List PanicEntry→H→Prop}
theorem lwFrames_ok(hC:C_sameR Core vs h K):HCX Tryz.prog 29 vs h K KP:=by
 obtain⟨u,c,la,lb,rfl,ha,hb,hK⟩:=hC
 rw[rep_coreV]at ha hb
 obtain⟨a0,a1,a2,a3,rfl,i0,i1,i2,i3⟩:=ha
 obtain⟨b0,b1,b2,b3,rfl,j0,j1,j2,j3⟩:=hb
 obtain⟨x0,y0,rfl,q0,q0'⟩:=i0.sl
 obtain⟨x1,y1,rfl,q1,q1'⟩:=i1.sl
 obtain⟨z0,w0,rfl,-,-⟩:=j0.sl
 obtain⟨z1,w1,rfl,-,-⟩:=j1.sl
 have hm:=mlen'
 refine lwFrames_H (fun _ _ _ _ _=>False) (fun _ _ _ _ _ h=>h.elim) _ _ ?_
 have s1:=Step.push0 S0 u h #[.slice x0 c.1.length y0,.slice x1 c.2.1.length y1,a2,a3] 31
 have B1:=Blk.new (u:=u) (h:=h) [.slice x0 c.1.length y0,.slice x1 c.2.1.length y1,a2,a3] 31
 have s2:=Step.push0 S0 (ub u h.size 0) (h.push (.cells #[.slice x0 c.1.length y0,.slice x1 c.2.1.length y1,a2,a3] 31)) #[.slice z0 c.1.length w0,.slice z1 c.2.1.length w1,b2,b3] 31
 have B2:=Blk.new (u:=ub u h.size 0) (h:=h.push (.cells #[.slice x0 c.1.length y0,.slice x1 c.2.1.length y1,a2,a3] 31)) [.slice z0 c.1.length w0,.slice z1 c.2.1.length w1,b2,b3] 31
 have B1:=B1.step0 s2
 have st:=s1.trans0 s2
 simp only[e_psz]at B2
 simp(disch:=first|omega|(simp only[zz];try omega;done)) only[↓reduceIte,go_sem,lwFrames_S,lwFrames_E]
 obtain⟨h2,hh2⟩: ∃h2,h2=(h.push (.cells #[.slice x0 c.1.length y0,.slice x1 c.2.1.length y1,a2,a3] 31)).push (.cells #[.slice z0 c.1.length w0,.slice z1 c.2.1.length w1,b2,b3] 31):=⟨_,rfl⟩
 obtain⟨u2,hu2⟩: ∃u2,u2=ub (ub u h.size 0) (h.size+1) 0:=⟨_,rfl⟩
 simp only[e_psz]at st B1
 rw[←hh2,←hu2]at st B1 B2
 rw[←hh2]
 have b1l:=B1.1
 have b2l:=B2.1
 obtain⟨I,hI⟩: ∃I:Nat→Env→H→Prop,I=fun i σ h'=>σ 2= .pointer (some ⟨h.size,0,none⟩)∧σ 3= .pointer (some ⟨h.size+1,0,none⟩)∧σ 5= .int .i64 i∧i≤c.1.length∧h'=h2:=⟨_,rfl⟩
 refine wpS_loop I (fun i=>c.1.length - i) 0 (by rw[hI];exact⟨by simp [upd],by simp [upd],by simp [upd],Nat.zero_le _,rfl⟩) ?_
 intro i σ h' hy
 rw[hI]at hy
 obtain⟨e2,e3,e5,hi,rfl⟩:=hy
 by_cases hlt:i<c.1.length
 ·obtain⟨x,hs⟩: ∃x,c.1[i]? =some x:=⟨c.1[i],by simp [hlt]⟩
  obtain⟨pb,po,rfl,hpb,hpu,hpz,hpr⟩:=(i0.mono st.ge).row i x hs
  obtain⟨qb,qo,rfl,hqb,hqu,hqz,hqr⟩:=(j0.mono st.ge).row i x hs
  simp only[rep_pred,sz_pred,hvs_2,List.cons.injEq,and_true]at hpr hpu hpz hqr hqu hqz
  simp(disch:=first|omega|(simp only[zz];try omega;done)) only[↓reduceIte,go_sem,lwFrames_L1,e2,e3,e5,hlt,B1.at,B1.2.1,B2.at,B2.2.1,hpr.1,hpr.2,hqr.1,hqr.2]
  refine⟨i+1,?_,by omega⟩
  rw[hI]
  exact⟨by simp [upd,e2],by simp [upd,e3],by simp [upd],hlt,rfl⟩
 ·obtain rfl:i=c.1.length:=by omega
  simp(disch:=first|omega|(simp only[zz];try omega;done)) only[↓reduceIte,go_sem,lwFrames_L1,e2,e5,B1.at,B1.2.1]
  clear hI I
  obtain⟨I,hI⟩: ∃I:Nat→Env→H→Prop,I=fun i σ h''=>σ 2= .pointer (some ⟨h.size,0,none⟩)∧σ 3= .pointer (some ⟨h.size+1,0,none⟩)∧σ 6= .int .i64 i∧i≤c.2.1.length∧h''=h':=⟨_,rfl⟩
  refine wpS_loop I (fun i=>c.2.1.length - i) 0 (by rw[hI];exact⟨by simp [upd,e2],by simp [upd,e3],by simp [upd],Nat.zero_le _,rfl⟩) ?_
  intro i τ h'' hy
  rw[hI]at hy
  obtain⟨f2,f3,f6,hi,rfl⟩:=hy
  by_cases hlt:i<c.2.1.length
  ·obtain⟨x,hs⟩: ∃x,c.2.1[i]? =some x:=⟨c.2.1[i],by simp [hlt]⟩
   obtain⟨pb,po,rfl,hpb,hpu,hpz,hpr⟩:=(i1.mono st.ge).row i x hs
   obtain⟨qb,qo,rfl,hqb,hqu,hqz,hqr⟩:=(j1.mono st.ge).row i x hs
   simp only[rep_const,sz_const,hvs_3,List.cons.injEq,and_true]at hpr hpu hpz hqr hqu hqz
   simp(disch:=first|omega|(simp only[zz];try omega;done)) only[↓reduceIte,go_sem,lwFrames_L2,f2,f3,f6,hlt,B1.at,B1.2.1,B2.at,B2.2.1,hpr.1,hpr.2.1,hpr.2.2,hqr.1,hqr.2.1,hqr.2.2]
   refine⟨i+1,?_,by omega⟩
   rw[hI]
   exact⟨by simp [upd,f2],by simp [upd,f3],by simp [upd],hlt,rfl⟩
  ·obtain rfl:i=c.2.1.length:=by omega
   simp(disch:=first|omega|(simp only[zz];try omega;done)) only[↓reduceIte,go_sem,lwFrames_L2,f2,f6,B1.at,B1.2.1]
   exact hK _ _ st
def G_lwCores:Ctr:=fun f vs h K _=>(f=29∧C_sameR Core vs h K)∨(f=30∧C_sameS Row vs h K)∨(f=31∧C_sameR Rule vs h K)
theorem G_lwCores_ok:GOk Tryz.prog G_lwCores:=by
 rintro f vs h K KP (⟨rfl,hC⟩|⟨rfl,hC⟩|⟨rfl,hC⟩)
 ·exact lwFrames_ok hC
 ·exact lwRows_ok hC
 ·exact lwRules_ok hC
theorem lwCores_ok(hC:C_sameR Core vs h K):HCX Tryz.prog 6 vs h K KP:=by
 obtain⟨u,c,la,lb,rfl,ha,hb,hK⟩:=hC
 have har:=ha
 have hbr:=hb
 rw[rep_coreV]at ha hb
 obtain⟨a0,a1,a2,a3,rfl,i0,i1,i2,i3⟩:=ha
 obtain⟨b0,b1,b2,b3,rfl,j0,j1,j2,j3⟩:=hb
 obtain⟨x2,y2,rfl,q2,q2'⟩:=i2.sl
 obtain⟨z2,w2,rfl,-,-⟩:=j2.sl
 have hm:=mlen'
 refine lwCores_H G_lwCores G_lwCores_ok _ _ ?_
 have s1:=Step.push0 S0 u h #[a0,a1,.slice x2 c.2.2.1.length y2,a3] 31
 have B1:=Blk.new (u:=u) (h:=h) [a0,a1,.slice x2 c.2.2.1.length y2,a3] 31
 have s2:=Step.push0 S0 (ub u h.size 0) (h.push (.cells #[a0,a1,.slice x2 c.2.2.1.length y2,a3] 31)) #[b0,b1,.slice z2 c.2.2.1.length w2,b3] 31
 have B2:=Blk.new (u:=ub u h.size 0) (h:=h.push (.cells #[a0,a1,.slice x2 c.2.2.1.length y2,a3] 31)) [b0,b1,.slice z2 c.2.2.1.length w2,b3] 31
 have B1:=B1.step0 s2
 have st:=s1.trans0 s2
 simp only[e_psz]at B2 st B1
 obtain⟨u2,hu2⟩: ∃u2,u2=ub (ub u h.size 0) (h.size+1) 0:=⟨_,rfl⟩
 rw[←hu2]at st B1 B2
 simp(disch:=first|omega|(simp only[zz];try omega;done)) only[↓reduceIte,go_sem,lwCores_S,lwCores_E]
 refine effS_call (.inl ⟨rfl,u2,c,[a0,a1,.slice x2 c.2.2.1.length y2,a3],[b0,b1,.slice z2 c.2.2.1.length w2,b3],rfl,Rep.mono st.ge har,Rep.mono st.ge hbr,fun u3 h3 s3=>⟨zz0,?_⟩⟩)
 have st3:=st.trans0 s3
 have C1:=B1.step0 s3
 have C2:=B2.step0 s3
 have c1l:=C1.1
 have c2l:=C2.1
 simp(disch:=first|omega|(simp only[zz];try omega;done)) only[↓reduceIte,go_sem,C1.at,C1.2.1,C2.at,C2.2.1]
 refine effS_call (.inr (.inl ⟨rfl,u3,_,_,c.2.2.2,rfl,i3.mono st3.ge,j3.mono st3.ge,fun u4 h4 s4=>⟨zz0,?_⟩⟩))
 have st4:=st3.trans0 s4
 have D1:=C1.step0 s4
 have D2:=C2.step0 s4
 simp(disch:=first|omega|(simp only[zz];try omega;done)) only[↓reduceIte,go_sem]
 obtain⟨I,hI⟩: ∃I:Nat→Env→H→Prop,I=fun i σ h'=>σ 2= .pointer (some ⟨h.size,0,none⟩)∧σ 3= .pointer (some ⟨h.size+1,0,none⟩)∧σ 5= .int .i64 i∧i≤c.2.2.1.length∧ ∃u',Step S0 u h u' h'∧Blk u' h' h.size [a0,a1,.slice x2 c.2.2.1.length y2,a3]∧Blk u' h' (h.size+1) [b0,b1,.slice z2 c.2.2.1.length w2,b3]:=⟨_,rfl⟩
 refine wpS_loop I (fun i=>c.2.2.1.length - i) 0 (by rw[hI];exact⟨by simp [upd],by simp [upd],by simp [upd],Nat.zero_le _,u4,st4,D1,D2⟩) ?_
 intro i σ h' hy
 rw[hI]at hy
 obtain⟨e2,e3,e5,hi,u',st',A,B⟩:=hy
 have al:=A.1
 have bl:=B.1
 by_cases hlt:i<c.2.2.1.length
 ·obtain⟨x,hs⟩: ∃x,c.2.2.1[i]? =some x:=⟨c.2.2.1[i],by simp [hlt]⟩
  obtain⟨pb,po,rfl,hpb,hpu,hpz,hpr⟩:=(i2.mono st'.ge).row i x hs
  obtain⟨qb,qo,rfl,hqb,hqu,hqz,hqr⟩:=(j2.mono st'.ge).row i x hs
  have hprs:=hpr
  have hqrs:=hqr
  rw[rep_rule]at hpr hqr
  obtain⟨p0,p1,p2,p3,p4,hpr,-⟩:=hpr
  obtain⟨g0,g1,g2,g3,g4,hqr,-⟩:=hqr
  rw[hpr]at hprs
  rw[hqr]at hqrs
  simp only[sz_rule,hvs_7,List.cons.injEq,and_true]at hpr hpu hpz hqr hqu hqz
  obtain⟨c0,c1,c2,c3,c4,c5,c6⟩:=hpr
  obtain⟨d0,d1,d2,d3,d4,d5,d6⟩:=hqr
  simp(disch:=first|omega|(simp only[zz];try omega;done)) only[↓reduceIte,go_sem,lwCores_L1,e2,e3,e5,hlt,A.at,A.2.1,B.at,B.2.1,c0,c1,c2,c3,c4,c5,c6,d0,d1,d2,d3,d4,d5,d6]
  refine effS_call (.inr (.inr ⟨rfl,u',x,[.int .i64 x.1.1,p0,p1,p2,p3,p4,.int .i64 x.2.2.2.2.2],[.int .i64 x.1.1,g0,g1,g2,g3,g4,.int .i64 x.2.2.2.2.2],rfl,hprs,hqrs,fun u5 h5 s5=>⟨zz0,?_⟩⟩))
  simp(disch:=first|omega|(simp only[zz];try omega;done)) only[↓reduceIte,go_sem,e5]
  refine⟨i+1,?_,by omega⟩
  rw[hI]
  exact⟨by simp [upd,e2],by simp [upd,e3],by simp [upd],hlt,u5,st'.trans0 s5,A.step0 s5,B.step0 s5⟩
 ·obtain rfl:i=c.2.2.1.length:=by omega
  simp(disch:=first|omega|(simp only[zz];try omega;done)) only[↓reduceIte,go_sem,lwCores_L1,e2,e5,A.at,A.2.1]
  exact hK _ _ st'
end Go.Proofs.YtmjinnbdnpedcaaGreat
end Merged
section Merged
namespace Go.Proofs.YtmjinnbdnpedcaaGreat
open Go Go.Ev Edict
def G_lwBuilds:Ctr:=fun f vs h K _=>(f=4∧C_rBuild vs h K)∨(f=5∧C_build vs h K)∨(f=6∧C_sameR Core vs h K)
theorem G_lwBuilds_ok:GOk Tryz.prog G_lwBuilds:=by
 rintro f vs h K KP (⟨rfl,hC⟩|⟨rfl,hC⟩|⟨rfl,hC⟩)
 ·exact rfBuild_ok hC
 ·exact crBuild_ok hC
 ·exact lwCores_ok hC
theorem CoreBuilds_hc{u:U}{h:H}{v w:Value}{p:List Clause}{fs:List Atom}(hl:IsSl u h v p)(hf:IsSl u h w fs)(hwp:Rep.wf p)(hwf:Rep.wf fs)(hP:PowT u h):
  HCX Tryz.prog 3 [.agg #[v],w] h (fun v h'=>v= .bool true∧Ext0 h h') fun _ _=>False:=by
 obtain⟨la,lc,rfl,-,-⟩:=hl.sl
 obtain⟨fa,fc,rfl,-,-⟩:=hf.sl
 refine lwBuilds_H G_lwBuilds G_lwBuilds_ok _ _ ?_
 have s1:=Step.push0 S0 u h #[.slice la p.length lc] 24
 have A1:=Blk.new (u:=u) (h:=h) [.slice la p.length lc] 24
 simp(disch:=first|omega|(simp only[zz];try omega;done)) only[↓reduceIte,go_sem,lwBuilds_S,lwBuilds_E]
 refine effS_call (.inl ⟨rfl,ub u h.size 0,_,_,p,fs,rfl,hl.mono s1.ge,hf.mono s1.ge,hwp,hwf,fun u2 h2 l2 s2 hr2=>⟨zz0,?_⟩⟩)
 obtain⟨B,hB⟩: ∃B,B=buildF p fs:=⟨_,rfl⟩
 rw[←hB]at hr2 ⊢
 have hr2s:=hr2
 rw[rep_coreV]at hr2
 obtain⟨a0,a1,a2,a3,rfl,i0,i1,i2,i3⟩:=hr2
 obtain⟨x0,y0,rfl,-,-⟩:=i0.sl
 obtain⟨x1,y1,rfl,-,-⟩:=i1.sl
 obtain⟨x2,y2,rfl,-,-⟩:=i2.sl
 obtain⟨x3,y3,rfl,-,-⟩:=i3.sl
 have st2:=s1.trans0 s2
 have A2:=A1.step0 s2
 have s3:=Step.push0 S0 u2 h2 #[.slice x0 B.1.1.length y0,.slice x1 B.1.2.1.length y1,.slice x2 B.1.2.2.1.length y2,.slice x3 B.1.2.2.2.length y3] 31
 have C3:=Blk.new (u:=u2) (h:=h2) [.slice x0 B.1.1.length y0,.slice x1 B.1.2.1.length y1,.slice x2 B.1.2.2.1.length y2,.slice x3 B.1.2.2.2.length y3] 31
 have s4:=Step.push0 S0 (ub u2 h2.size 0) (h2.push (.cells #[.slice x0 B.1.1.length y0,.slice x1 B.1.2.1.length y1,.slice x2 B.1.2.2.1.length y2,.slice x3 B.1.2.2.2.length y3] 31)) #[.int .i64 B.2.1,.int .i64 B.2.2.1,.int .i64 B.2.2.2] 34
 have D4:=Blk.new (u:=ub u2 h2.size 0) (h:=h2.push (.cells #[.slice x0 B.1.1.length y0,.slice x1 B.1.2.1.length y1,.slice x2 B.1.2.2.1.length y2,.slice x3 B.1.2.2.2.length y3] 31)) [.int .i64 B.2.1,.int .i64 B.2.2.1,.int .i64 B.2.2.2] 34
 have s34:=s3.trans0 s4
 have C4:=C3.step0 s4
 have A4:=A2.step0 s34
 simp only[e_psz]at s34 C4 D4 A4
 obtain⟨u4,hu4⟩: ∃u4,u4=ub (ub u2 h2.size 0) (h2.size+1) 0:=⟨_,rfl⟩
 obtain⟨h4,hh4⟩: ∃h4,h4=(h2.push (.cells #[.slice x0 B.1.1.length y0,.slice x1 B.1.2.1.length y1,.slice x2 B.1.2.2.1.length y2,.slice x3 B.1.2.2.2.length y3] 31)).push (.cells #[.int .i64 B.2.1,.int .i64 B.2.2.1,.int .i64 B.2.2.2] 34):=⟨_,rfl⟩
 rw[←hu4,←hh4]at s34 C4 D4 A4
 have st4:=st2.trans0 s34
 have a4l:=A4.1
 simp(disch:=first|omega|(simp only[zz];try omega;done)) only[↓reduceIte,go_sem,fV,←hh4,A4.at,A4.2.1]
 refine effS_call (.inr (.inl ⟨rfl,u4,_,_,p,fs,rfl,hl.mono st4.ge,hf.mono st4.ge,hwp,hwf,hP.mono st4.ge,fun u5 h5 l5 s5 hr5=>⟨zz0,?_⟩⟩))
 rw[←hB]at hr5 ⊢
 have hr5s:=hr5
 rw[rep_coreV]at hr5
 obtain⟨b0,b1,b2,b3,rfl,j0,j1,j2,j3⟩:=hr5
 obtain⟨z0,w0,rfl,-,-⟩:=j0.sl
 obtain⟨z1,w1,rfl,-,-⟩:=j1.sl
 obtain⟨z2,w2,rfl,-,-⟩:=j2.sl
 obtain⟨z3,w3,rfl,-,-⟩:=j3.sl
 have C5:=C4.step0 s5
 have D5:=D4.step0 s5
 have s6:=Step.push0 S0 u5 h5 #[.slice z0 B.1.1.length w0,.slice z1 B.1.2.1.length w1,.slice z2 B.1.2.2.1.length w2,.slice z3 B.1.2.2.2.length w3] 31
 have s7:=Step.push0 S0 (ub u5 h5.size 0) (h5.push (.cells #[.slice z0 B.1.1.length w0,.slice z1 B.1.2.1.length w1,.slice z2 B.1.2.2.1.length w2,.slice z3 B.1.2.2.2.length w3] 31)) #[.int .i64 B.2.1,.int .i64 B.2.2.1,.int .i64 B.2.2.2] 34
 have s67:=s6.trans0 s7
 simp only[e_psz]at s67
 have c5l:=C5.1
 have d5l:=D5.1
 have g2:=s34.ge.trans s5.ge
 simp(disch:=first|omega|(simp only[zz];try omega;done)) only[↓reduceIte,go_sem,fV,C5.at,C5.2.1,D5.at,D5.2.1]
 refine effS_call (.inr (.inr ⟨rfl,_,B.1,[.slice z0 B.1.1.length w0,.slice z1 B.1.2.1.length w1,.slice z2 B.1.2.2.1.length w2,.slice z3 B.1.2.2.2.length w3],[.slice x0 B.1.1.length y0,.slice x1 B.1.2.1.length y1,.slice x2 B.1.2.2.1.length y2,.slice x3 B.1.2.2.2.length y3],rfl,Rep.mono s67.ge hr5s,Rep.mono s67.ge (Rep.mono g2 hr2s),fun u8 h8 s8=>⟨zz0,?_⟩⟩))
 simp(disch:=first|omega|(simp only[zz];try omega;done)) only[↓reduceIte,go_sem]
 exact(((st4.trans0 s5).trans0 s67).trans0 s8).ext
end Go.Proofs.YtmjinnbdnpedcaaGreat
end Merged
