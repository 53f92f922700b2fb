/- The reference's Build: slots and patterns. -/
import Derived.Test.YtmjinnbdnpedcaaGreatCbI
namespace Go.Proofs.YtmjinnbdnpedcaaGreat
open Go Go.Ev Edict
variable {vs:List Value} {h:H} {K:Value→H→Prop} {KP:List PanicEntry→H→Prop}
def C_amongI(vs:List Value)(h:H)(K:Value→H→Prop):Prop:= ∃(u:U) (v:Value) (l:Strs) (s:List UInt8),vs=[v,str s]∧IsSl u h v l∧K (.int .i64 (posI l s)) h
theorem rfAmongI_ok(hC:C_amongI vs h K):HCX Tryz.prog 65 vs h K KP:=by
 obtain⟨u,v,l,s,rfl,hl,hK⟩:=hC
 obtain⟨la,lc,rfl,q1,q2⟩:=hl.sl
 have hm:=mlen'
 refine rfAmong_H (fun _ _ _ _ _=>False) (fun _ _ _ _ _ h=>h.elim) _ _ ?_
 simp(disch:=first|omega|(simp only[zz];try omega;done)) only[go_sem,rfAmong_S,rfAmong_E]
 obtain⟨I,hI⟩: ∃I:Nat→Env→H→Prop,I=fun i σ h'=>σ 0= .slice la l.length lc∧σ 1=str s∧σ 5= .int .i64 i∧i≤l.length∧s ∉ l.take i∧h'=h:=⟨_,rfl⟩
 refine wpS_loop I (fun i=>l.length - i) 0 (by rw[hI];exact⟨by simp [upd],by simp [upd],by simp [upd],Nat.zero_le _,by simp,rfl⟩) ?_
 intro i σ h' hy
 rw[hI]at hy
 obtain⟨e0,e1,e5,hi,hno,rfl⟩:=hy
 by_cases hlt:i<l.length
 ·obtain⟨x,hs⟩: ∃x,l[i]? =some x:=⟨l[i],by simp [hlt]⟩
  obtain⟨pb,po,rfl,hpb,hpu,hpz,hpr⟩:=hl.row i x hs
  simp only[rep_str,sz_str,hvs_1,List.cons.injEq,and_true]at hpr hpu hpz
  by_cases he:x=s
  ·simp(disch:=first|omega|(simp only[zz];try omega;done)) only[↓reduceIte,go_sem,rfAmong_L1,e0,e1,e5,hlt,hpr,eq_true he]
   have:posI l s=i:=pos_first hno (by rw[hs,he])
   rw[this]at hK;exact hK
  ·simp(disch:=first|omega|(simp only[zz];try omega;done)) only[↓reduceIte,go_sem,rfAmong_L1,e0,e1,e5,hlt,hpr,eq_false he]
   refine⟨i+1,?_,by omega⟩
   rw[hI]
   refine⟨by simp [upd,e0],by simp [upd,e1],by simp [upd],hlt,?_,rfl⟩
   rw[List.take_add_one,hs,Option.toList_some,List.mem_append,List.mem_singleton]
   rintro (h|h)
   ·exact hno h
   ·exact he h.symm
 ·obtain rfl:i=l.length:=by omega
  rw[List.take_length]at hno
  simp(disch:=first|omega|(simp only[zz];try omega;done)) only[↓reduceIte,go_sem,rfAmong_L1,e0,e5]
  rw[posI_out hno]at hK;exact hK
structure FrB (u:U) (h:H) (f:Nat) (ps:List Pred) (cs:List Const):Prop where
 ex: ∃vps b,Blk u h f [vps,.pointer (some ⟨b,0,none⟩)]∧IsSl u h vps ps∧BookB u h b cs
theorem FrB.step0{u u':U}{h h':H}{f:Nat}{ps:List Pred}{cs:List Const}(k:FrB u h f ps cs)(s:Step S0 u h u' h'):FrB u' h' f ps cs:=by
 obtain⟨vps,b,h1,h2,h3⟩:=k.ex
 exact⟨vps,b,h1.step0 s,h2.mono s.ge,h3.step0 s⟩
def Slot.enc(s:Slot):List Value:=[.bool s.1,.int .i64 s.2]
def C_slot(vs:List Value)(h:H)(K:Value→H→Prop):Prop:= ∃(u:U) (f:Nat) (ps:List Pred) (cs:List Const) (t:Term) (v:Value) (V:Strs),vs=[.pointer (some ⟨f,0,none⟩),.agg (Term.enc t).toArray,v]∧FrB u h f ps cs∧IsSl u h v V∧(t.1≠4→cnst t∈cs)∧ ∀u' h',Step S0 u h u' h'→K (.agg (Slot.enc (slotR cs V t)).toArray) h'
def G_rfSlot:Ctr:=fun f vs h K _=>(f=65∧C_amongI vs h K)∨(f=13∧C_cnst vs h K)∨(f=41∧C_id vs h K)
theorem G_rfSlot_ok:GOk Tryz.prog G_rfSlot:=by
 rintro f vs h K KP (⟨rfl,hC⟩|⟨rfl,hC⟩|⟨rfl,hC⟩)
 ·exact rfAmongI_ok hC
 ·exact rfConst_ok hC
 ·exact rfId_ok hC
theorem rfSlot_ok(hC:C_slot vs h K):HCX Tryz.prog 44 vs h K KP:=by
 obtain⟨u,f,ps,cs,t,v,V,rfl,hF,hV,hc,hK⟩:=hC
 obtain⟨va,vc,rfl,q1,q2⟩:=hV.sl
 refine rfSlot_H G_rfSlot G_rfSlot_ok _ _ _ ?_
 have s1:=Step.push0 S0 u h #[.int .i64 t.1,.int .i64 t.2.1,str t.2.2.1,.int .i64 t.2.2.2] 56
 have B1:=Blk.new (u:=u) (h:=h) [.int .i64 t.1,.int .i64 t.2.1,str t.2.2.1,.int .i64 t.2.2.2] 56
 have s2:=Step.push0 S0 (ub u h.size 0) (h.push (.cells #[.int .i64 t.1,.int .i64 t.2.1,str t.2.2.1,.int .i64 t.2.2.2] 56)) #[.bool false,.int .i64 0] 123
 have B2:=Blk.new (u:=ub u h.size 0) (h:=h.push (.cells #[.int .i64 t.1,.int .i64 t.2.1,str t.2.2.1,.int .i64 t.2.2.2] 56)) [.bool false,.int .i64 0] 123
 have B1:=B1.step0 s2
 have st2:=s1.trans0 s2
 have F2:=hF.step0 st2
 obtain⟨u2,hu2⟩: ∃u2,u2=ub (ub u h.size 0) (h.push (.cells #[.int .i64 t.1,.int .i64 t.2.1,str t.2.2.1,.int .i64 t.2.2.2] 56)).size 0:=⟨_,rfl⟩
 rw[←hu2]at s2 B1 B2 st2 F2
 have b1l:=B1.1
 have b2l:=B2.1
 simp only[e_psz]at B2 b2l
 obtain⟨vps,b,hFb,hFp,hFB⟩:=hF.ex
 have hfl:=hFb.1
 by_cases h4:t.1=4
 ·have hs:slotR cs V t=(true,posI V t.2.2.1):=by unfold slotR;rw[if_pos h4]
  simp(disch:=first|omega|(simp only[zz];try omega;done)) only[↓reduceIte,go_sem,rfSlot_S,rfSlot_E,Term.enc,eq_true h4]
  refine effS_call (.inl ⟨rfl,u2,_,V,t.2.2.1,rfl,hV.mono st2.ge,by simp(disch:=first|omega|(simp only[zz];try omega;done)) only[go_sem],?_⟩)
  have hK':=hK _ _ (s1.trans0 (Step.push0 S0 (ub u h.size 0) (h.push (.cells #[.int .i64 t.1,.int .i64 t.2.1,str t.2.2.1,.int .i64 t.2.2.2] 56)) #[.bool true,.int .i64 (posI V t.2.2.1)] 123))
  rw[hs]at hK'
  simp(disch:=first|omega|(simp only[zz];try omega;done)) only[↓reduceIte,go_sem]
  exact hK'
 ·have hs:slotR cs V t=(false,idL cs (cnst t)):=by unfold slotR;rw[if_neg h4]
  simp(disch:=first|omega|(simp only[zz];try omega;done)) only[↓reduceIte,go_sem,rfSlot_S,rfSlot_E,Term.enc,eq_false h4,hFb.at,hFb.2.1]
  refine effS_call (.inr (.inl ⟨rfl,u2,t,rfl,fun u3 h3 s3=> ?_⟩))
  have st3:=st2.trans0 s3
  have F3:=hFb.step0 st3
  have B3:=B2.step0 s3
  have f3l:=F3.1
  have b3l:=B3.1
  refine⟨by simp(disch:=first|omega|(simp only[zz];try omega;done)) only[↓reduceIte,go_sem,F3.at,F3.2.1,hFb.at],?_⟩
  simp(disch:=first|omega|(simp only[zz];try omega;done)) only[↓reduceIte,go_sem]
  refine effS_call (.inr (.inr ⟨rfl,u3,b,cs,cnst t,rfl,hFB.step0 st3,hc h4,fun u4 h4' s4=>⟨zz0,?_⟩⟩))
  have B4:=B3.step0 s4
  have b4l:=B4.1
  have b9:=B4.sets (l:=[.bool false,.int .i64 (idL cs (cnst t))]) rfl
  have sw:=B4.stepSets (l:=[.bool false,.int .i64 (idL cs (cnst t))]) rfl
  have hK':=hK _ _ ((st3.trans0 s4).own sw fun j e=>by have e:j=h.size+1:=e;omega)
  rw[hs]at hK'
  simp(disch:=first|omega|(simp only[zz];try omega;done)) only[↓reduceIte,go_sem,B4.2.1,B4.2.2.1,b9.at,b9.2.1]
  exact hK'
def PatM(u0:U)(h0:H)(f a r p:Nat)(ac:List Value)(pid:Int)(σ:Env)(u':U)(h':H):Prop:=Step S0 u0 h0 u' h'∧σ 0= .pointer (some ⟨f,0,none⟩)∧σ 4= .pointer (some ⟨a,0,none⟩)∧σ 6= .pointer (some ⟨r,0,none⟩)∧σ p= .pointer (some ⟨h0.size+2,0,none⟩)∧h'.size=h0.size+3∧Blk u' h' a ac∧Blk u' h' r [.int .i64 0,.slice none 0 0]∧Blk u' h' (h0.size+2) [.int .i64 pid,.slice none 0 0]
def C_pattern(vs:List Value)(h:H)(K:Value→H→Prop):Prop:= ∃(u:U) (f:Nat) (ps:List Pred) (cs:List Const) (a:Atom) (l:List Value) (v:Value) (V:Strs),vs=[.pointer (some ⟨f,0,none⟩),.agg l.toArray,v]∧Rep.rep u h a l∧FrB u h f ps cs∧IsSl u h v V∧a.2.1.length≤1000000∧(∀t∈a.2.1,t.1≠4→cnst t∈cs)∧ ∀u' h' l',Step S0 u h u' h'→Rep.rep u' h' (patR ps cs V a) l'→K (.agg l'.toArray) h'
def G_rfPattern:Ctr:=fun f vs h K _=>(f=35∧C_pred vs h K)∨(f=44∧C_slot vs h K)
theorem G_rfPattern_ok:GOk Tryz.prog G_rfPattern:=by
 rintro f vs h K KP (⟨rfl,hC⟩|⟨rfl,hC⟩)
 ·exact rfPred_ok hC
 ·exact rfSlot_ok hC
theorem rfPattern_ok(hC:C_pattern vs h K):HCX Tryz.prog 18 vs h K KP:=by
 obtain⟨u,f,ps,cs,a,l,v,V,rfl,ha,hF,hV,hal,hac,hK⟩:=hC
 obtain⟨va,vc,rfl,q1,q2⟩:=hV.sl
 rw[rep_atom]at ha
 obtain⟨aw,rfl,haa⟩:=ha
 obtain⟨aa,ac,rfl,q3,q4⟩:=haa.sl
 have hm:=mlen'
 refine rfPattern_H G_rfPattern G_rfPattern_ok _ _ _ ?_
 have s1:=Step.push0 S0 u h #[str a.1,.slice aa a.2.1.length ac,.int .i64 a.2.2] 48
 have B1:=Blk.new (u:=u) (h:=h) [str a.1,.slice aa a.2.1.length ac,.int .i64 a.2.2] 48
 have s2:=Step.push0 S0 (ub u h.size 0) (h.push (.cells #[str a.1,.slice aa a.2.1.length ac,.int .i64 a.2.2] 48)) #[.int .i64 0,.slice none 0 0] 74
 have B2:=Blk.new (u:=ub u h.size 0) (h:=h.push (.cells #[str a.1,.slice aa a.2.1.length ac,.int .i64 a.2.2] 48)) [.int .i64 0,.slice none 0 0] 74
 have B1:=B1.step0 s2
 have st2:=s1.trans0 s2
 obtain⟨u2,hu2⟩: ∃u2,u2=ub (ub u h.size 0) (h.push (.cells #[str a.1,.slice aa a.2.1.length ac,.int .i64 a.2.2] 48)).size 0:=⟨_,rfl⟩
 obtain⟨h2,hh2⟩: ∃h2,h2=(h.push (.cells #[str a.1,.slice aa a.2.1.length ac,.int .i64 a.2.2] 48)).push (.cells #[.int .i64 0,.slice none 0 0] 74):=⟨_,rfl⟩
 have hz2:h2.size=h.size+2:=by rw[hh2];simp only[e_psz]
 have B2:Blk u2 h2 (h.size+1) [.int .i64 0,.slice none 0 0]:=by rw[hu2,hh2];simpa only[e_psz]using B2
 have B1:Blk u2 h2 h.size [str a.1,.slice aa a.2.1.length ac,.int .i64 a.2.2]:=by rw[hu2,hh2];exact B1
 have st2:Step S0 u h u2 h2:=by rw[hu2,hh2];exact st2
 have b1l:=B1.1
 have b2l:=B2.1
 obtain⟨vps,b,hFb,hFp,hFB⟩:=(hF.step0 st2).ex
 have hfl:=hFb.1
 simp(disch:=first|omega|(simp only[zz];try omega;done)) only[↓reduceIte,go_sem,rfPattern_S,rfPattern_E,←hh2]
 obtain⟨M,hM⟩: ∃M:Env→H→Prop,M=fun σ' h3=> ∃u3,PatM u h f h.size (h.size+1) 7 [str a.1,.slice aa a.2.1.length ac,.int .i64 a.2.2] (predI ps a.1) σ' u3 h3∧σ' 2= .slice va V.length vc:=⟨_,rfl⟩
 refine w_join M ?_ ?_
 ·have sp:=Step.push0 S0 u2 h2 #[.int .i64 (predI ps a.1),.slice none 0 0] 74
  have P3:=Blk.new (u:=u2) (h:=h2) [.int .i64 (predI ps a.1),.slice none 0 0] 74
  rw[hz2]at P3
  have fin: ∀σ':Env,σ' 0= .pointer (some ⟨f,0,none⟩)→σ' 2= .slice va V.length vc→σ' 4= .pointer (some ⟨h.size,0,none⟩)→σ' 6= .pointer (some ⟨h.size+1,0,none⟩)→σ' 7= .pointer (some ⟨h2.size,0,none⟩)→M σ' (h2.push (.cells #[.int .i64 (predI ps a.1),.slice none 0 0] 74)):=fun σ' g0 g2 g4 g6 g7=>by
   rw[hM]
   exact⟨_,⟨st2.trans0 sp,g0,g4,g6,by rw[g7,hz2],by simp only[e_psz];omega,B1.step0 sp,B2.step0 sp,by rw[hz2];exact P3⟩,g2⟩
  simp(disch:=first|omega|(simp only[zz];try omega;done)) only[↓reduceIte,go_sem,w_both,B1.at,B1.2.1,hFb.at,hFb.2.1]
  refine⟨effS_call (.inl ⟨rfl,u2,vps,ps,a.1,rfl,hFp,by simp(disch:=first|omega|(simp only[zz];try omega;done)) only[go_sem],?_⟩),?_⟩
  ·simp(disch:=first|omega|(simp only[zz];try omega;done)) only[↓reduceIte,go_sem]
   exact fin _ (by simp [upd]) (by simp [upd]) (by simp [upd]) (by simp [upd]) (by simp [upd])
  ·have sp0:=Step.push0 S0 u2 h2 #[.int .i64 0,.slice none 0 0] 74
   refine effS_call (.inl ⟨rfl,_,vps,ps,a.1,rfl,hFp.mono sp0.ge,by simp(disch:=first|omega|(simp only[zz];try omega;done)) only[go_sem],?_⟩)
   simp(disch:=first|omega|(simp only[zz];try omega;done)) only[↓reduceIte,go_sem]
   exact fin _ (by simp [upd]) (by simp [upd]) (by simp [upd]) (by simp [upd]) (by simp [upd])
 intro σ3 h3 hM3
 rw[hM]at hM3
 obtain⟨u3,⟨st3,g0,g4,g6,g7,hz3,A3,R3,P3⟩,g2⟩:=hM3
 clear hM M
 simp(disch:=first|omega|(simp only[zz];try omega;done)) only[go_sem]
 obtain⟨I,hI⟩: ∃I:Nat→Env→H→Prop,I=fun i σ h'=>σ 0= .pointer (some ⟨f,0,none⟩)∧σ 2= .slice va V.length vc∧σ 4= .pointer (some ⟨h.size,0,none⟩)∧σ 6= .pointer (some ⟨h.size+1,0,none⟩)∧σ 7= .pointer (some ⟨h.size+2,0,none⟩)∧σ 8= .int .i64 i∧i≤a.2.1.length∧
  ∃u' w,Step S0 u h u' h'∧h.size+3≤h'.size∧Blk u' h' h.size [str a.1,.slice aa a.2.1.length ac,.int .i64 a.2.2]∧Blk u' h' (h.size+1) [.int .i64 0,.slice none 0 0]∧Blk u' h' (h.size+2) [.int .i64 (predI ps a.1),w]∧Own (h.size+3) u' h' w ((a.2.1.take i).map (slotR cs V)):=⟨_,rfl⟩
 refine wpS_loop I (fun i=>a.2.1.length - i) 0 (by rw[hI];exact⟨by simp [upd,g0],by simp [upd,g2],by simp [upd,g4],by simp [upd,g6],by simp [upd,g7],by simp [upd],Nat.zero_le _,u3,_,st3,by omega,A3,R3,P3,.nil _ _ _⟩) ?_
 clear g0 g2 g4 g6 g7 st3 hz3 A3 R3 P3
 intro i σ h' hy
 rw[hI]at hy
 obtain⟨e0,e2,e4,e6,e7,e8,hi,u',w,st,hz,A,R,P,ho⟩:=hy
 have al:=A.1
 have rl:=R.1
 have pl:=P.1
 by_cases hlt:i<a.2.1.length
 ·obtain⟨x,hs⟩: ∃x,a.2.1[i]? =some x:=⟨a.2.1[i],by simp [hlt]⟩
  obtain⟨pb,po,rfl,hpb,hpu,hpz,hpr⟩:=(haa.mono st.ge).row i x hs
  simp only[rep_term,Term.enc,sz_term,hvs_4,List.cons.injEq,and_true]at hpr hpu hpz
  obtain⟨p0,p1,p2,p3⟩:=hpr
  simp(disch:=first|omega|(simp only[zz];try omega;done)) only[↓reduceIte,go_sem,rfPattern_L1,e0,e2,e4,e8,A.at,A.2.1,hlt,p0,p1,p2,p3]
  refine effS_call (.inr ⟨rfl,u',f,ps,cs,x,_,V,rfl,hF.step0 st,hV.mono st.ge,hac x (List.mem_of_getElem? hs),fun u4 h4 s4=>⟨zz0,?_⟩⟩)
  have st4:=st.trans0 s4
  have A4:=A.step0 s4
  have R4:=R.step0 s4
  have P4:=P.step0 s4
  have ho4:=ho.step0 s4
  have hz4:=s4.ge.sz
  obtain⟨S,hS⟩: ∃S,S=slotR cs V x:=⟨_,rfl⟩
  rw[←hS]
  have hse:(Slot.enc S).toArray= #[.bool S.1,.int .i64 S.2]:=rfl
  rw[hse]
  have sp:=Step.push0 S0 u4 h4 #[.bool S.1,.int .i64 S.2] 123
  have X5:=Blk.new (u:=u4) (h:=h4) [.bool S.1,.int .i64 S.2] 123
  have st5:=st4.trans0 sp
  have A5:=A4.step0 sp
  have R5:=R4.step0 sp
  have P5:=P4.step0 sp
  have ho5:=ho4.step0 sp
  have p4l:=P4.1
  have hrx:Rep.rep (ub u4 h4.size 0) (h4.push (.cells #[.bool S.1,.int .i64 S.2] 123)) S [.bool S.1,.int .i64 S.2]:=by rw[rep_slot]
  have hln:((a.2.1.take i).map (slotR cs V)).length≤i:=by rw[List.length_map,List.length_take];exact Nat.min_le_left _ _
  obtain⟨wa,wc,rfl,-,-⟩:=ho.sl
  simp(disch:=first|omega|(simp only[zz];try omega;done)) only[↓reduceIte,go_sem,e7,P4.at,P4.2.1]
  refine effS_app1o (e':=123) (cs:=[.bool S.1,.int .i64 S.2]) (by simp only[e_psz]) ho5 hrx rfl rfl (by simp only[e_psz];omega) (by omega) fun a6 n6 c6 u6 h6 o6 s6 w6=>⟨zz0,?_⟩
  have st6:=st5.own s6 fun j hj=>by have:=ho5.ge hj;omega
  have A6:=A5.step s6 fun hj=>by have:=ho5.ge hj;omega
  have R6:=R5.step s6 fun hj=>by have:=ho5.ge hj;omega
  have P6:=P5.step s6 fun hj=>by have:=ho5.ge hj;omega
  have hz6:=s6.ge.sz
  simp only[e_psz]at hz6
  obtain⟨xa6,xc6,hx6,-,-⟩:=o6.sl
  cases hx6
  obtain⟨W,hW⟩: ∃W,W=(a.2.1.take i).map (slotR cs V)++[S]:=⟨_,rfl⟩
  have hWl:((a.2.1.take i).map (slotR cs V)).length+1=W.length:=by rw[hW,List.length_append];rfl
  rw[←hW]at o6 ⊢
  have sw:=P6.stepSet (i:=1) (v:= .slice a6 W.length c6)
  have P7:Blk u6 (hset h6 (h.size+2) 1 (.slice a6 W.length c6)) (h.size+2) [.int .i64 (predI ps a.1),.slice a6 W.length c6]:=P6.set (i:=1) (v:= .slice a6 W.length c6) (by simp)
  have A7:=A6.step sw fun e=>by have e:h.size=h.size+2:=e;omega
  have R7:=R6.step sw fun e=>by have e:h.size+1=h.size+2:=e;omega
  have o7:=o6.step sw fun b hb e=>by have e:b=h.size+2:=e;have:=o6.ge hb;omega
  have st7:=st6.own sw fun j e=>by have e:j=h.size+2:=e;omega
  have hz7:=sw.ge.sz
  have p6l:=P6.1
  simp(disch:=first|omega|(simp only[zz];try omega;done)) only[↓reduceIte,go_sem,e7,e8,P6.2.1,P6.2.2.1]
  refine⟨i+1,?_,by omega⟩
  rw[hI]
  refine⟨by simp [upd,e0],by simp [upd,e2],by simp [upd,e4],by simp [upd,e6],by simp [upd,e7],by simp [upd],hlt,u6,.slice a6 W.length c6,st7,by omega,A7,R7,P7,?_⟩
  rw[take_map_snoc hs,←hS,←hW];exact o7
 ·obtain rfl:i=a.2.1.length:=by omega
  rw[List.take_length]at ho
  obtain⟨wa,wc,rfl,-,-⟩:=ho.sl
  have b9:=R.sets (l:=[.int .i64 (predI ps a.1),.slice wa (a.2.1.map (slotR cs V)).length wc]) rfl
  have sw:=R.stepSets (l:=[.int .i64 (predI ps a.1),.slice wa (a.2.1.map (slotR cs V)).length wc]) rfl
  have hK':=hK _ _ [.int .i64 (predI ps a.1),.slice wa (a.2.1.map (slotR cs V)).length wc] (st.own sw fun j e=>by have e:j=h.size+1:=e;omega) (by rw[rep_pattern];exact⟨_,rfl,ho.isSl.mono sw.ge⟩)
  simp(disch:=first|omega|(simp only[zz];try omega;done)) only[↓reduceIte,go_sem,rfPattern_L1,e4,e6,e7,e8,A.at,A.2.1,P.at,P.2.1,R.2.1,R.2.2.1,b9.at,b9.2.1]
  exact hK'
end Go.Proofs.YtmjinnbdnpedcaaGreat
