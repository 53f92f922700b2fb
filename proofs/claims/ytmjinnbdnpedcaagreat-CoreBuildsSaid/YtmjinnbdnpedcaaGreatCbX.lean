import Derived.Test.YtmjinnbdnpedcaaGreatKcO
import Derived.Test.YtmjinnbdnpedcaaGreatKcN
section Merged
namespace Edict
theorem form_zero{p:List Clause}{fs:List Atom}(h:formF p fs=(0,0,0)):wellW p=0∧fs.length≤4096∧ ∀a∈fs,grB a=true:=by
 unfold formF at h
 split at h
 ·rename_i hw;exact absurd (congrArg (fun f:Flt=>f.1) h) hw
 ·rename_i hw
  have hw:wellW p=0:=Classical.byContradiction hw
  split at h
  ·cases h
  ·rename_i h4
   refine⟨hw,by omega,fun a ha=> ?_⟩
   split at h
   ·cases h
   ·rename_i hf
    rw[List.find?_eq_none]at hf
    have:=hf a ha
    simpa using this
theorem build_err1{p:List Clause}{fs:List Atom}(h:formF p fs≠(0,0,0)):buildF p fs=(core0,(formF p fs).1,(formF p fs).2.1,(formF p fs).2.2):=by
 unfold buildF;rw[if_pos h]
theorem build_err2{p:List Clause}{fs:List Atom}(h:formF p fs=(0,0,0))(h2:boundF p≠(0,0,0)):buildF p fs=(core0,(boundF p).1,(boundF p).2.1,(boundF p).2.2):=by
 unfold buildF;rw[if_neg (by simp [h]),if_pos h2]
theorem build_mid{p:List Clause}{fs:List Atom}(h:formF p fs=(0,0,0))(h2:boundF p=(0,0,0)):buildF p fs=match takeF ([],[]) p with
   |(_,some t)=>(core0,6,0,t.2.2.2)
   |((ps,cs),none)=>midF p fs ps cs:=by
 unfold buildF midF
 rw[if_neg (by simp [h]),if_neg (by simp [h2])]
 generalize takeF ([],[]) p=r
 obtain⟨⟨ps,cs⟩,o⟩:=r
 cases o with
 |some t=>rfl
 |none=>
  simp only
  generalize takeA cs fs=q
  obtain⟨cs',o⟩:=q
  cases o<;>rfl
theorem flt_ne{f:Flt}(h:f≠(0,0,0)):(decide (f.1=0) && (decide (f.2.1=0) && decide (f.2.2=0)))=false:=by
 cases hd:(decide (f.1=0) && (decide (f.2.1=0) && decide (f.2.2=0)))with
 |false=>rfl
 |true=>
  simp only[Bool.and_eq_true,decide_eq_true_eq]at hd
  exact absurd (Prod.ext hd.1 (Prod.ext hd.2.1 hd.2.2)) h
end Edict
namespace Go.Proofs.YtmjinnbdnpedcaaGreat
open Go Go.Ev Edict
def C_build(vs:List Value)(h:H)(K:Value→H→Prop):Prop:= ∃(u:U) (v w:Value) (p:List Clause) (fs:List Atom),vs=[.agg #[v],w]∧IsSl u h v p∧IsSl u h w fs∧Rep.wf p∧Rep.wf fs∧PowT u h∧Kb u h p fs K
theorem wf_cnst{t:Term}(h:Rep.wf t):Rep.wf (cnst t):=⟨h.1,h.2.1,h.2.2.1⟩
theorem crBuild_ok{vs:List Value}{h:H}{K:Value→H→Prop}{KP:List PanicEntry→H→Prop}(hC:C_build vs h K):HCX Tryz.prog 5 vs h K KP:=by
 obtain⟨u,v,w,p,fs,rfl,hl,hlf,hwp,hwf,hP,hK⟩:=hC
 obtain⟨la,lc,rfl,q1,q2⟩:=hl.sl
 obtain⟨fa,fc,rfl,q3,q4⟩:=hlf.sl
 have hm:=mlen'
 refine crBuild_H G_crBuild G_crBuild_ok _ _ ?_
 rw[bS_cut]
 simp(disch:=first|omega|(simp only[zz];try omega;done)) only[↓reduceIte,go_sem,sF,crBuild_S]
 have sA:=Step.push0 S0 u h #[.slice la p.length lc] 24
 have A0:Blk (ub u h.size 0) (h.push (.cells #[.slice la p.length lc] 24)) h.size [.slice la p.length lc]:=(Blk.mk (by simp only[e_psz];omega) (by simp(disch:=first|omega|(simp only[zz];try omega;done)) only[go_sem]) (by simp(disch:=first|omega|(simp only[zz];try omega;done)) only[go_sem]) (by repeat (first|(refine ub_at ?_;simp only[];done)|apply ub_zero)) (by simp(disch:=first|omega|(simp only[zz];try omega;done)) only[go_sem]))
 have sB:=Step.push0 S0 (ub u h.size 0) (h.push (.cells #[.slice la p.length lc] 24)) #[.slice none 0 0,.slice none 0 0,.slice none 0 0,.slice none 0 0] 31
 have B0:Blk (ub (ub u h.size 0) (h.push (.cells #[.slice la p.length lc] 24)).size 0) ((h.push (.cells #[.slice la p.length lc] 24)).push (.cells #[.slice none 0 0,.slice none 0 0,.slice none 0 0,.slice none 0 0] 31)) (h.size+1) [.slice none 0 0,.slice none 0 0,.slice none 0 0,.slice none 0 0]:=(Blk.mk (by simp only[e_psz];omega) (by simp(disch:=first|omega|(simp only[zz];try omega;done)) only[go_sem]) (by simp(disch:=first|omega|(simp only[zz];try omega;done)) only[go_sem]) (by repeat (first|(refine ub_at ?_;simp only[e_psz];done)|apply ub_zero)) (by simp(disch:=first|omega|(simp only[zz];try omega;done)) only[go_sem]))
 obtain⟨h1,hh1⟩: ∃h1,h1=(h.push (.cells #[.slice la p.length lc] 24)).push (.cells #[.slice none 0 0,.slice none 0 0,.slice none 0 0,.slice none 0 0] 31):=⟨_,rfl⟩
 have A1:=A0.step0 sB
 have st1:=sA.trans0 sB
 generalize ub (ub u h.size 0) (h.push (.cells #[.slice la p.length lc] 24)).size 0=u1 at A1 B0 st1
 rw[←hh1]at A1 B0 st1 ⊢
 have hs1:h1.size=h.size+2:=by rw[hh1];simp only[e_psz]
 clear hh1 sA sB A0
 have sC:=Step.push0 S0 u1 h1 #[.int .i64 0,.int .i64 0,.int .i64 0] 34
 have F2:Blk (ub u1 h1.size 0) (h1.push (.cells #[.int .i64 0,.int .i64 0,.int .i64 0] 34)) h1.size [.int .i64 0,.int .i64 0,.int .i64 0]:=(Blk.mk (by simp only[e_psz];omega) (by simp(disch:=first|omega|(simp only[zz];try omega;done)) only[go_sem]) (by simp(disch:=first|omega|(simp only[zz];try omega;done)) only[go_sem]) (by repeat (first|(refine ub_at ?_;simp only[];done)|apply ub_zero)) (by simp(disch:=first|omega|(simp only[zz];try omega;done)) only[go_sem]))
 have A2:=A1.step0 sC
 have B2:=B0.step0 sC
 have st2:=st1.trans0 sC
 obtain⟨h2,hh2⟩: ∃h2,h2=h1.push (.cells #[.int .i64 0,.int .i64 0,.int .i64 0] 34):=⟨_,rfl⟩
 generalize ub u1 h1.size 0=u2 at A2 B2 F2 st2
 rw[←hh2]at A2 B2 F2 st2 ⊢
 have hs2:h2.size=h.size+3:=by rw[hh2];simp only[e_psz];omega
 clear hh2 sC A1 B0 st1
 rw[hs1]at F2
 clear hs1 h1
 generalize hσ:upd (upd (upd (upd (upd env0 0 (.agg #[.slice la p.length lc])) 1 (.slice fa fs.length fc)) 2 (.pointer (some ⟨h.size,0,none⟩))) 4 (.pointer (some ⟨h.size+1,0,none⟩))) 5 (.pointer (some ⟨h.size+1+1,0,none⟩))=σ
 have e1:σ 1= .slice fa fs.length fc:=by rw[←hσ];simp [upd]
 have e2:σ 2= .pointer (some ⟨h.size,0,none⟩):=by rw[←hσ];simp [upd]
 have e4:σ 4= .pointer (some ⟨h.size+1,0,none⟩):=by rw[←hσ];simp [upd]
 have e5:σ 5= .pointer (some ⟨h.size+2,0,none⟩):=by rw[←hσ];simp [upd]
 clear hσ
 -- for the answers of faults
 have errX: ∀(u':U) (h':H),Step S0 u h u' h'→Blk u' h' h.size [.slice la p.length lc]→Blk u' h' (h.size+1) [.slice none 0 0,.slice none 0 0,.slice none 0 0,.slice none 0 0]→Blk u' h' (h.size+2) [.int .i64 0,.int .i64 0,.int .i64 0]→
   BCx u h p fs la fa lc fc h.size (h.size+1) (h.size+2) 0 (h.size+3) (upd (upd (upd (upd (upd env0 1 (.slice fa fs.length fc)) 2 (.pointer (some ⟨h.size,0,none⟩))) 4 (.pointer (some ⟨h.size+1,0,none⟩))) 5 (.pointer (some ⟨h.size+2,0,none⟩))) 8 (.pointer (some ⟨0,0,none⟩))) u' h':=fun u' h' st A B F=>
  ⟨by simp [upd],by simp [upd],by simp [upd],by simp [upd],by simp [upd],st,A,B,F,by have:=F.1;omega⟩
 have ha2:=A2.1
 rw[bT2_cut]
 simp(disch:=first|omega|(simp only[zz];try omega;done)) only[↓reduceIte,go_sem,bT2,sS,sF,crBuild_S,e1,e2,A2.at,A2.2.1]
 refine effS_call (gb_form ⟨u2,_,_,p,fs,rfl,hl.mono st2.ge,hlf.mono st2.ge,hwp,hwf,hP.mono st2.ge,fun u3 h3 s3=>⟨zz0,?_⟩⟩)
 have A3:=A2.step0 s3
 have B3:=B2.step0 s3
 have F3:=F2.step0 s3
 have st3:=st2.trans0 s3
 simp only[fV]
 generalize hf:formF p fs=f
 have s4:=Step.push0 S0 u3 h3 #[.int .i64 f.1,.int .i64 f.2.1,.int .i64 f.2.2] 34
 have A4:=A3.step0 s4
 have B4:=B3.step0 s4
 have F4:=F3.step0 s4
 have st4:=st3.trans0 s4
 have hb3:=B3.1
 have hf3:=F3.1
 have ha3:=A3.1
 by_cases hz:f=(0,0,0)
 ·subst hz
  obtain⟨hw0,hf4,hgr⟩:=form_zero hf
  simp(disch:=first|omega|(simp only[zz];try omega;done)) only[↓reduceIte,go_sem]
  generalize hσ':upd (upd (upd (upd σ 25 (.agg #[.slice la p.length lc])) 27 (.agg #[.int .i64 0,.int .i64 0,.int .i64 0])) 6 (.pointer (some ⟨h3.size,0,none⟩))) 30 (.bool false)=σ'
  have k1:σ' 1= .slice fa fs.length fc:=by rw[←hσ'];simp [upd,e1]
  have k2:σ' 2= .pointer (some ⟨h.size,0,none⟩):=by rw[←hσ'];simp [upd,e2]
  have k4:σ' 4= .pointer (some ⟨h.size+1,0,none⟩):=by rw[←hσ'];simp [upd,e4]
  have k5:σ' 5= .pointer (some ⟨h.size+2,0,none⟩):=by rw[←hσ'];simp [upd,e5]
  clear hσ' e1 e2 e4 e5
  simp only[]at A4 B4 F4 st4
  generalize ub u3 h3.size 0=u4 at A4 B4 F4 st4
  generalize h3.push (.cells #[.int .i64 0,.int .i64 0,.int .i64 0] 34)=h4 at A4 B4 F4 st4 ⊢
  have ha4:=A4.1
  obtain⟨hcW,hpl⟩:=wellW_mem hw0
  rw[bT3_cut]
  simp(disch:=first|omega|(simp only[zz];try omega;done)) only[↓reduceIte,go_sem,bT3,bT2,sS,sF,crBuild_S,k2,A4.at,A4.2.1]
  refine effS_call (gb_bound ⟨u4,_,p,rfl,hl.mono st4.ge,fun c hc=>clauseW_bulk (hcW c hc),fun u5 h5 s5=>⟨zz0,?_⟩⟩)
  have A5:=A4.step0 s5
  have B5:=B4.step0 s5
  have F5:=F4.step0 s5
  have st5:=st4.trans0 s5
  simp only[fV]
  generalize hbd:boundF p=g
  have s6:=Step.push0 S0 u5 h5 #[.int .i64 g.1,.int .i64 g.2.1,.int .i64 g.2.2] 34
  have A6:=A5.step0 s6
  have B6:=B5.step0 s6
  have F6:=F5.step0 s6
  have st6:=st5.trans0 s6
  have hb5:=B5.1
  have hf5:=F5.1
  have ha5:=A5.1
  by_cases hz2:g=(0,0,0)
  ·subst hz2
   have hmid:=build_mid hf hbd
   simp(disch:=first|omega|(simp only[zz];try omega;done)) only[↓reduceIte,go_sem]
   simp only[]at A6 B6 F6 st6
   generalize ub u5 h5.size 0=u6 at A6 B6 F6 st6
   generalize h5.push (.cells #[.int .i64 0,.int .i64 0,.int .i64 0] 34)=h6 at A6 B6 F6 st6 ⊢
   rw[bT4_cut]
   simp(disch:=first|omega|(simp only[zz];try omega;done)) only[go_sem,bT4,bT3,bT2,sS,sF,crBuild_S]
   refine effS_call (gb_begin ⟨u6,rfl,fun u7 h7 b mp mc s7 B7=>⟨zz0,?_⟩⟩)
   have A7:=A6.step0 s7
   have C7:=B6.step0 s7
   have F7:=F6.step0 s7
   have st7:=st6.trans0 s7
   have hf6:=F6.1
   simp(disch:=first|omega|(simp only[zz];try omega;done)) only[↓reduceIte,go_sem]
   refine bT5_ok (k:=h6.size) (b:=b) (p2:=h.size) (p4:=h.size+1) (p5:=h.size+2) ⟨by simp [upd,k1],by simp [upd,k2],by simp [upd,k4],by simp [upd,k5],by simp [upd],st7,A7,C7,F7,by have:=s7.ge.sz;omega⟩ hl hlf B7 hpl hcW ?_ (fun a ha=>⟨?_,fun t ht=>wf_cnst ((hwf.2 a ha).2.1.2 t ht)⟩) hf4 hmid hK
   ·intro c hc t ht
    have hwc:=hwp.2 c hc
    unfold termsC at ht
    rcases List.mem_append.1 ht with ht|ht
    ·exact wf_cnst (hwc.1.2.1.2 t ht)
    ·obtain⟨x,hx,ht⟩:=List.mem_flatMap.1 ht
     have hwx:=hwc.2.2 x hx
     unfold termsL argsOf at ht
     split at ht
     ·exact wf_cnst (hwx.2.1.2.1.2 t ht)
     ·split at ht
      ·simp only[List.mem_cons,List.not_mem_nil,or_false]at ht
       rcases ht with rfl|rfl
       ·exact wf_cnst hwx.2.2.2.1
       ·exact wf_cnst hwx.2.2.2.2.1
      ·simp at ht
   ·have:=hgr a ha
    unfold grB at this
    rw[Bool.and_eq_true,decide_eq_true_eq]at this
    exact(atomW_bulk this.1).2
  ·have hb:=build_err2 (fs:=fs) (p:=p) hf (by rw[hbd];exact hz2)
   rw[hbd]at hb
   have E:=err_ok (errX u5 h5 st5 A5 B5 F5) hb hK
   simp(disch:=first|omega|(simp only[zz];try omega;done)) only[↓reduceIte,go_sem,flt_ne hz2,k4,k5,B5.2.1,B5.2.2.1]
   generalize hXe:hsets h5 (h.size+1) 0 [.slice none 0 0,.slice none 0 0,.slice none 0 0,.slice none 0 0]=hX at E ⊢
   obtain⟨y1,y2,y3,y4,y5,y6,y7,y8,y9,y10,y11,y12⟩:=E
   have y60:=y6 0 (by omega)
   have y61:=y6 1 (by omega)
   have y62:=y6 2 (by omega)
   have y63:=y6 3 (by omega)
   simp(disch:=first|omega|(simp only[zz];try omega;done)) only[↓reduceIte,go_sem,k4,k5,crBuild_E,y3,y4,y5,y60,y61,y62,y63,y7,y8,y9]
   exact y12 _ _ (Step.push0 S0 _ _ _ _)
 ·have hb:=build_err1 (fs:=fs) (p:=p) (by rw[hf];exact hz)
  rw[hf]at hb
  have E:=err_ok (errX u3 h3 st3 A3 B3 F3) hb hK
  simp(disch:=first|omega|(simp only[zz];try omega;done)) only[↓reduceIte,go_sem,flt_ne hz,e4,e5,B3.2.1,B3.2.2.1]
  generalize hXe:hsets h3 (h.size+1) 0 [.slice none 0 0,.slice none 0 0,.slice none 0 0,.slice none 0 0]=hX at E ⊢
  obtain⟨y1,y2,y3,y4,y5,y6,y7,y8,y9,y10,y11,y12⟩:=E
  have y60:=y6 0 (by omega)
  have y61:=y6 1 (by omega)
  have y62:=y6 2 (by omega)
  have y63:=y6 3 (by omega)
  simp(disch:=first|omega|(simp only[zz];try omega;done)) only[↓reduceIte,go_sem,e4,e5,crBuild_E,y3,y4,y5,y60,y61,y62,y63,y7,y8,y9]
  exact y12 _ _ (Step.push0 S0 _ _ _ _)
end Go.Proofs.YtmjinnbdnpedcaaGreat
end Merged
section Merged
namespace Edict
theorem joinR_len(l:List Row)(r:Row):(joinR l r).length≤l.length+1:=by unfold joinR;split<;>simp
theorem joins_len{ps:List Pred}{cs:List Const}: ∀(l:List Atom) (rows:List Row),(l.foldl (fun r a=>joinR r (rowR ps cs a)) rows).length≤rows.length+l.length
 |[],_=>by simp
 |a::l,rows=>by
  have h1:=joins_len (ps:=ps) (cs:=cs) l (joinR rows (rowR ps cs a))
  have h2:=joinR_len rows (rowR ps cs a)
  simp only[List.foldl_cons,List.length_cons];omega
theorem rulesRR_snoc{ps:List Pred}{cs:List Const}: ∀(l:List Clause) (st:List Rule×List Row) (n:Nat) (c:Clause),rulesRR ps cs st n (l++[c])=stepRR ps cs (rulesRR ps cs st n l) (n+l.length) c
 |[],st,n,c=>rfl
 |d::l,st,n,c=>by
  rw[List.cons_append,rulesRR,rulesRR,rulesRR_snoc l,List.length_cons]
  congr 1;omega
theorem rulesRR_len{ps:List Pred}{cs:List Const}: ∀(l:List Clause) (st:List Rule×List Row) (n:Nat),(rulesRR ps cs st n l).1.length≤st.1.length+l.length∧(rulesRR ps cs st n l).2.length≤st.2.length+l.length
 |[],_,_=>by simp [rulesRR]
 |c::l,st,n=>by
  have ih:=rulesRR_len (ps:=ps) (cs:=cs) l (stepRR ps cs st n c) (n+1)
  have hs:(stepRR ps cs st n c).1.length≤st.1.length+1∧(stepRR ps cs st n c).2.length≤st.2.length+1:=by
   unfold stepRR
   split
   ·have:=joinR_len st.2 (rowR ps cs c.1)
    exact⟨by simp only;omega,this⟩
   ·exact⟨by simp,by simp⟩
  rw[rulesRR,List.length_cons]
  omega
end Edict
namespace Go.Proofs.YtmjinnbdnpedcaaGreat
open Go Go.Ev Edict
def rT1:S:=sS rfBuild_S
def rT2:S:=sS rT1
def rT3:S:=sS rT2
def rT4:S:=sS rT3
def rT5:S:=sS rT4
def rT6:S:=sS rT5
def rT7:S:=sS rT6
def rT8:S:=sS rT7
def rT9:S:=sS rT8
def rT10:S:=sS rT9
def rT11:S:=sS rT10
def rT12:S:=sS rT11
def rT13:S:=sS rT12
def rT14:S:=sS rT13
theorem rT0_cut:rfBuild_S= .seq (sF rfBuild_S) rT1:=rfl
theorem rT1_cut:rT1= .seq (sF rT1) rT2:=rfl
theorem rT2_cut:rT2= .seq (sF rT2) rT3:=rfl
theorem rT3_cut:rT3= .seq (sF rT3) rT4:=rfl
theorem rT4_cut:rT4= .seq (sF rT4) rT5:=rfl
theorem rT5_cut:rT5= .seq (sF rT5) rT6:=rfl
theorem rT6_cut:rT6= .seq (sF rT6) rT7:=rfl
theorem rT7_cut:rT7= .seq (sF rT7) rT8:=rfl
theorem rT8_cut:rT8= .seq (sF rT8) rT9:=rfl
theorem rT9_cut:rT9= .seq (sF rT9) rT10:=rfl
theorem rT10_cut:rT10= .seq (sF rT10) rT11:=rfl
theorem rT11_cut:rT11= .seq (sF rT11) rT12:=rfl
theorem rT12_cut:rT12= .seq (sF rT12) rT13:=rfl
theorem rT13_cut:rT13= .seq (sF rT13) rT14:=rfl
structure BX (u0:U) (h0:H) (np nf:Nat) (la fa:Option Addr) (lc fc:Nat) (σ:Env) (u:U) (h:H):Prop where
 st:Step S0 u0 h0 u h
 e1:σ 1= .slice fa nf fc
 e2:σ 2= .pointer (some ⟨h0.size,0,none⟩)
 e4:σ 4= .pointer (some ⟨h0.size+1,0,none⟩)
 e5:σ 5= .pointer (some ⟨h0.size+2,0,none⟩)
 A:Blk u h h0.size [.slice la np lc]
 R:Blk u h (h0.size+1) [.slice none 0 0,.slice none 0 0,.slice none 0 0,.slice none 0 0]
 F:Blk u h (h0.size+2) [.int .i64 0,.int .i64 0,.int .i64 0]
 z:h0.size+3≤h.size
theorem BX.go{S:Nat→Prop}{u0:U}{h0:H}{np nf:Nat}{la fa:Option Addr}{lc fc:Nat}{σ σ':Env}{u u':U}{h h':H}(X:BX u0 h0 np nf la fa lc fc σ u h)(s:Step S u h u' h')(hS: ∀j,S j→h0.size+3≤j)(h1:σ' 1=σ 1)(h2:σ' 2=σ 2)(h4:σ' 4=σ 4)(h5:σ' 5=σ 5):BX u0 h0 np nf la fa lc fc σ' u' h':=
 ⟨X.st.own s fun j hj=>(by have:=hS j hj;omega),by rw[h1,X.e1],by rw[h2,X.e2],by rw[h4,X.e4],by rw[h5,X.e5],X.A.step s fun hj=>(by have:=hS _ hj;omega),X.R.step s fun hj=>(by have:=hS _ hj;omega),X.F.step s fun hj=>(by have:=hS _ hj;omega),Nat.le_trans X.z s.ge.sz⟩
structure CX (k b f:Nat) (ps:List Pred) (cs:List Const) (vP vC vR vF:Value) (rs:List Rule) (rows:List Row) (σ:Env) (u:U) (h:H):Prop where
 eb:σ 15= .pointer (some ⟨b,0,none⟩)
 ef:σ 17= .pointer (some ⟨f,0,none⟩)
 hb:b<k
 C:Blk u h b [vP,vC,vR,vF]
 N:FrN k u h f ps cs
 iP:IsSl u h vP ps
 iC:IsSl u h vC cs
 oR:Own k u h vR rs
 oF:Own k u h vF rows
 dis: ∀j,OwnB vR j→ ¬OwnB vF j
 kz:k≤h.size
theorem CX.go0{k b f:Nat}{ps:List Pred}{cs:List Const}{vP vC vR vF:Value}{rs:List Rule}{rows:List Row}{σ σ':Env}{u u':U}{h h':H}(X:CX k b f ps cs vP vC vR vF rs rows σ u h)(s:Step S0 u h u' h')(h1:σ' 15=σ 15)(h2:σ' 17=σ 17):CX k b f ps cs vP vC vR vF rs rows σ' u' h':=
 ⟨by rw[h1,X.eb],by rw[h2,X.ef],X.hb,X.C.step0 s,X.N.step0 s,X.iP.mono s.ge,X.iC.mono s.ge,X.oR.step0 s,X.oF.step0 s,X.dis,Nat.le_trans X.kz s.ge.sz⟩
theorem CX.setF{k b f:Nat}{ps:List Pred}{cs:List Const}{vP vC vR vF v:Value}{rs:List Rule}{rows rows':List Row}{σ σ':Env}{u u':U}{h h':H}(X:CX k b f ps cs vP vC vR vF rs rows σ u h)(s:Step (OwnB vF) u h u' h')(o:Own k u' h' v rows')(hw: ∀j,OwnB v j→OwnB vF j∨h.size≤j)(h1:σ' 15=σ 15)(h2:σ' 17=σ 17):
  CX k b f ps cs vP vC vR v rs rows' σ' u' (hset h' b 3 v)∧Step (fun j=>k≤j∨j=b) u h u' (hset h' b 3 v):=by
 have hk: ∀j,OwnB vF j→k≤j:=fun j hj=>X.oF.ge hj
 have C1:=X.C.step s fun hj=>by have:=hk _ hj;have:=X.hb;omega
 have sw:=C1.stepSet (i:=3) (v:=v)
 have C2:Blk u' (hset h' b 3 v) b [vP,vC,vR,v]:=C1.set (i:=3) (v:=v) (by simp)
 have hkb: ∀j,j=b→ ¬k≤j:=fun j e=>by have:=X.hb;omega
 refine⟨⟨by rw[h1,X.eb],by rw[h2,X.ef],X.hb,C2,?_,(X.iP.mono s.ge).mono sw.ge,(X.iC.mono s.ge).mono sw.ge,(X.oR.step s fun b hb hb2=>X.dis b hb hb2).step sw fun b hb e=>hkb b e (X.oR.ge hb),o.step sw fun b hb e=>hkb b e (o.ge hb),fun j hj hj2=> ?_,Nat.le_trans X.kz (Nat.le_trans s.ge.sz sw.ge.sz)⟩,?_⟩
 ·obtain⟨vps,bb,l1,l2,g1,g2,g3⟩:=(X.N.step s hk).ex
  by_cases hfb:f=b
  ·exfalso
   have e1:=g1.at 1 (by simp)
   have e2:=C1.at 1 (by simp)
   have e0:=g1.2.1
   have e0':=C1.2.1
   rw[hfb,e0']at e0
   simp at e0
  ·by_cases hbb:bb=b
   ·exfalso
    obtain⟨va,vi,L,I,h1,-⟩:=g3.ex
    have e0:=h1.2.1
    rw[hbb,C1.2.1]at e0
    simp at e0
   ·exact⟨vps,bb,l1,l2,g1.step sw hfb,g2.mono sw.ge,g3.step sw hbb⟩
 ·rcases hw j hj2 with h|h
  ·exact X.dis j hj h
  ·have:=X.oR.lt hj;omega
 ·refine(s.mono (S':=fun j=>k≤j∨j=b) fun j _ hj=> .inl (hk j hj)).trans sw fun j _ e=> .inr e
def G_rfBuild:Ctr:=fun f vs h K _=>(f=15∧C_row vs h K)∨(f=16∧C_joined vs h K)∨(f=17∧C_bodyR vs h K)∨(f=18∧C_pattern vs h K)∨(f=14∧C_book vs h K)∨(f=13∧C_cnst vs h K)∨(f=12∧C_firstsR vs h K)∨(f=11∧C_termsR vs h K)∨(f=10∧C_varsR vs h K)∨(f=9∧C_predsR vs h K)∨(f=8∧C_atomsR vs h K)∨(f=7∧C_givenR vs h K)
theorem G_rfBuild_ok:GOk Tryz.prog G_rfBuild:=by
 rintro f vs h K KP (⟨rfl,hC⟩|⟨rfl,hC⟩|⟨rfl,hC⟩|⟨rfl,hC⟩|⟨rfl,hC⟩|⟨rfl,hC⟩|⟨rfl,hC⟩|⟨rfl,hC⟩|⟨rfl,hC⟩|⟨rfl,hC⟩|⟨rfl,hC⟩|⟨rfl,hC⟩)
 ·exact rfRow_ok hC
 ·exact rfJoined_ok hC
 ·exact rfBody_ok hC
 ·exact rfPattern_ok hC
 ·exact rfBook_ok hC
 ·exact rfConst_ok hC
 ·exact rfFirsts_ok hC
 ·exact rfTerms_ok hC
 ·exact rfVariables_ok hC
 ·exact rfPreds_ok hC
 ·exact rfAtoms_ok hC
 ·exact rfGiven_ok hC
theorem rT14_ok {K:Value→H→Prop} {KP:List PanicEntry→H→Prop} {u0:U} {h0:H} {p:List Clause} {fs:List Atom} {la fa:Option Addr} {lc fc:Nat} {σ:Env} {u:U} {h:H} {k b f:Nat} {ps:List Pred} {cs:List Const} {vP vC vR vF:Value} {rs:List Rule} {rows:List Row}
  (X:BX u0 h0 p.length fs.length la fa lc fc σ u h) (Y:CX k b f ps cs vP vC vR vF rs rows σ u h) (hbk:h0.size+3≤b) (hf:IsSl u0 h0 (.slice fa fs.length fc) fs) (hf4:fs.length≤4096) (hfa: ∀a∈fs,a.2.1.length≤8∧ ∀t∈a.2.1,cnst t∈cs) (hrl:rows.length≤512)
  (hb:refF p fs=((ps,cs,rs,fs.foldl (fun l a=>joinR l (rowR ps cs a)) rows),0,0,0)) (hK:Kb u0 h0 p fs K):wpS G_rfBuild rT14 (retQ rfBuild_E (callK K KP)) σ h:=by
 have hm:=mlen'
 have x1:=X.e1
 have x2:=X.e2
 have x4:=X.e4
 have x5:=X.e5
 have y15:=Y.eb
 have y17:=Y.ef
 simp(disch:=first|omega|(simp only[zz];try omega;done)) only[go_sem,rT14,rT13,rT12,rT11,rT10,rT9,rT8,rT7,rT6,rT5,rT4,rT3,rT2,rT1,rfBuild_S,sS,rfBuild_E]
 obtain⟨I,hI⟩: ∃I:Nat→Env→H→Prop,I=fun i σ h'=>σ 22= .int .i64 i∧i≤fs.length∧ ∃u' vF,BX u0 h0 p.length fs.length la fa lc fc σ u' h'∧CX k b f ps cs vP vC vR vF rs ((fs.take i).foldl (fun l a=>joinR l (rowR ps cs a)) rows) σ u' h':=⟨_,rfl⟩
 refine wpS_loop I (fun i=>fs.length - i) 0 (by
  rw[hI]
  exact⟨by simp [upd],Nat.zero_le _,u,vF,X.go (Step.refl S0 u h) (fun _ e=>e.elim) (by simp [upd]) (by simp [upd]) (by simp [upd]) (by simp [upd]),Y.go0 (Step.refl S0 u h) (by simp [upd]) (by simp [upd])⟩) ?_
 clear X Y x1 x2 x4 x5 y15 y17
 intro i σ h' hy
 rw[hI]at hy
 obtain⟨e22,hi,u',vF,X,Y⟩:=hy
 have x1:=X.e1
 have x2:=X.e2
 have x4:=X.e4
 have x5:=X.e5
 have y15:=Y.eb
 have y17:=Y.ef
 by_cases hlt:i<fs.length
 ·obtain⟨x,hs⟩: ∃x,fs[i]? =some x:=⟨fs[i],by simp [hlt]⟩
  obtain⟨hx8,hxc⟩:=hfa x (List.mem_of_getElem? hs)
  obtain⟨pb,po,rfl,hpb,hpu,hpz,hpr⟩:=(hf.mono X.st.ge).row i x hs
  have hprs:=hpr
  rw[rep_atom]at hpr
  obtain⟨va,hpr,hh⟩:=hpr
  rw[hpr]at hprs
  simp only[sz_atom,hvs_3,List.cons.injEq,and_true]at hpr hpu hpz
  obtain⟨p0,p1,p2⟩:=hpr
  simp(disch:=first|omega|(simp only[zz];try omega;done)) only[↓reduceIte,go_sem,rfBuild_L4,x1,e22,y17,hlt,p0,p1,p2]
  refine effS_call (.inl ⟨rfl,u',f,ps,cs,x,[str x.1,va,.int .i64 x.2.2],rfl,hprs,Y.N.b,by omega,hxc,fun u4 h4 l4 s4 hr4=>⟨zz0,?_⟩⟩)
  obtain⟨Q4,hQ4⟩: ∃Q4,Q4=rowR ps cs x:=⟨_,rfl⟩
  rw[←hQ4]at hr4
  have hrp:=hr4
  rw[rep_row]at hr4
  obtain⟨zv,rfl,hz4⟩:=hr4
  obtain⟨za,zc,rfl,-,-⟩:=hz4.sl
  have sX:=Step.push0 S0 u4 h4 #[.int .i64 Q4.1,.slice za Q4.2.length zc] 69
  have s5:=s4.trans0 sX
  have Y4:=Y.go0 (σ':=σ) s4 rfl rfl
  have Y5:=Y.go0 (σ':=σ) s5 rfl rfl
  have X5:=X.go (σ':=σ) s5 (fun _ e=>e.elim) rfl rfl rfl rfl
  have c4:=Y4.C
  have c4l:=c4.1
  have hlen:=joins_len (ps:=ps) (cs:=cs) (fs.take i) rows
  rw[List.length_take]at hlen
  simp(disch:=first|omega|(simp only[zz];try omega;done)) only[↓reduceIte,go_sem,y15,c4.at,c4.2.1]
  refine effS_call (.inr (.inl ⟨rfl,_,k,vF,_,Q4,[.int .i64 Q4.1,.slice za Q4.2.length zc],rfl,Y5.oF,Y5.kz,Rep.mono sX.ge hrp,by omega,fun u6 h6 v6 s6 o6 w6=>⟨zz0,?_⟩⟩))
  obtain⟨va6,vc6,rfl,-,-⟩:=o6.sl
  have c5:=Y5.C.step s6 fun hj=>by have:=Y5.oF.ge hj;have:=Y5.hb;omega
  have c5l:=c5.1
  simp(disch:=first|omega|(simp only[zz];try omega;done)) only[↓reduceIte,go_sem,y15,e22,c5.2.1,c5.2.2.1]
  have hfold:(fs.take (i+1)).foldl (fun l a=>joinR l (rowR ps cs a)) rows=joinR ((fs.take i).foldl (fun l a=>joinR l (rowR ps cs a)) rows) Q4:=by rw[fold_snoc hs,hQ4]
  obtain⟨Y6,s7⟩:=Y5.setF (σ':=σ) s6 o6 w6 rfl rfl
  refine⟨i+1,?_,by omega⟩
  rw[hI]
  refine⟨by simp [upd],hlt,u6,.slice va6 (joinR ((fs.take i).foldl (fun l a=>joinR l (rowR ps cs a)) rows) Q4).length vc6,X5.go s7 (fun j hj=>by rcases hj with hj|hj;have:=Y5.hb;omega;omega) (by simp [upd]) (by simp [upd]) (by simp [upd]) (by simp [upd]),?_⟩
  rw[hfold]
  exact⟨by simp [upd,y15],by simp [upd,y17],Y6.hb,Y6.C,Y6.N,Y6.iP,Y6.iC,Y6.oR,Y6.oF,Y6.dis,Y6.kz⟩
 ·obtain rfl:i=fs.length:=by omega
  rw[List.take_length]at Y
  obtain⟨ra,rc,hvR,-,-⟩:=Y.oR.sl
  obtain⟨ra',rc',hvF,-,-⟩:=Y.oF.sl
  obtain⟨ra2,rc2,hvP,-,-⟩:=Y.iP.sl
  obtain⟨ra3,rc3,hvC,-,-⟩:=Y.iC.sl
  have c:=Y.C
  have cl:=c.1
  have hbz:=Y.hb
  have rl:=X.R.1
  have fl:=X.F.1
  have sw:=X.R.stepSets (l:=[vP,vC,vR,vF]) rfl
  have R1:=X.R.sets (l:=[vP,vC,vR,vF]) rfl
  have F1:=X.F.step sw fun e=>by have e:h0.size+2=h0.size+1:=e;omega
  have sw2:=F1.stepSets (l:=[.int .i64 0,.int .i64 0,.int .i64 0]) rfl
  have F2:=F1.sets (l:=[.int .i64 0,.int .i64 0,.int .i64 0]) rfl
  have R2:=R1.step sw2 fun e=>by have e:h0.size+1=h0.size+2:=e;omega
  have hg:=sw.ge.trans sw2.ge
  have st2:=(X.st.own sw fun j e=>by have e:j=h0.size+1:=e;omega).own sw2 fun j e=>by have e:j=h0.size+2:=e;omega
  have hK':=hK _ _ [vP,vC,vR,vF] st2 (by
   rw[←ref_build,hb]
   exact rep_core (Y.iP.mono hg) (Y.iC.mono hg) (Y.oR.isSl.mono hg) (Y.oF.isSl.mono hg))
  rw[←ref_build,hb]at hK'
  have r1l:=R1.1
  have f1l:=F1.1
  have r2l:=R2.1
  have f2l:=F2.1
  subst hvR hvF hvP hvC
  simp(disch:=first|omega|(simp only[zz];try omega;done)) only[↓reduceIte,go_sem,rfBuild_L4,x1,x4,x5,e22,y15,c.at,c.2.1,X.R.2.1,X.R.2.2.1,F1.2.1,F1.2.2.1,R2.at,R2.2.1,F2.at,F2.2.1]
  exact hK'
end Go.Proofs.YtmjinnbdnpedcaaGreat
end Merged
