import Derived.Test.YtmjinnbdnpedcaaGreatKpB
import Derived.Test.YtmjinnbdnpedcaaGreatWellB
section Merged
namespace Go.Ev
open Go Edict
@[instance_reducible] def repPart:Rep Term where
 sz:=1
 rep _ _ t cs:=cs=[.iface 195 (.agg (Term.enc t).toArray)]
 wf _:=True
 bulk _:=1
 szp:=Nat.one_pos
 len h:=by subst h;rfl
 ok h:=by subst h;rfl
 mono _ h:=h
 pos _:=Nat.le_refl _
end Go.Ev
namespace Go.Proofs.YtmjinnbdnpedcaaGreat
open Go Go.Ev Edict
variable {vs:List Value} {h:H} {K:Value→H→Prop} {KP:List PanicEntry→H→Prop}
abbrev OwnP(k:Nat)(u:U)(h:H)(v:Value)(l:List Term):Prop:= @Own Term repPart k u h v l
abbrev IsSlP(u:U)(h:H)(v:Value)(l:List Term):Prop:= @IsSl Term repPart u h v l
def C_atomF(vs:List Value)(h:H)(K:Value→H→Prop):Prop:= ∃(u:U) (t:Term),vs=[.agg (Term.enc t).toArray]∧ ∀u' h',Step S0 u h u' h'→K (.iface 195 (.agg (Term.enc t).toArray)) h'
theorem prAtomF_ok(hC:C_atomF vs h K):HCX Tryz.prog 125 vs h K KP:=by
 obtain⟨u,t,rfl,hK⟩:=hC
 refine prAtomF_H (fun _ _ _ _ _=>False) (fun _ _ _ _ _ h=>h.elim) _ ?_
 simp(disch:=first|omega|(simp only[zz];try omega;done)) only[↓reduceIte,go_sem,prAtomF_S,prAtomF_E,Term.enc]
 exact hK _ _ (Step.push0 S0 u h _ _)
def C_parts(vs:List Value)(h:H)(K:Value→H→Prop):Prop:= ∃(u:U) (v:Value) (l:List Term),vs=[v,.func (.func 125) #[] #[]]∧IsSl u h v l∧l.length≤1048576∧ ∀u' h' w,Step S0 u h u' h'→IsSlP u' h' w l→K w h'
def G_prParts:Ctr:=fun f vs h K _=>f=125∧C_atomF vs h K
theorem G_prParts_ok:GOk Tryz.prog G_prParts:=by
 rintro f vs h K KP ⟨rfl,hC⟩;exact prAtomF_ok hC
theorem prParts_ok(hC:C_parts vs h K):HCX Tryz.prog 124 vs h K KP:=by
 obtain⟨u,v,l,rfl,hl,hlen,hK⟩:=hC
 obtain⟨la,lc,rfl,q1,q2⟩:=hl.sl
 have hm:=mlen
 refine prParts_H G_prParts G_prParts_ok _ _ ?_
 simp(disch:=first|omega|(simp only[zz];try omega;done)) only[↓reduceIte,go_sem,prParts_S,prParts_E]
 have s0:Step S0 u h (ub u h.size 0) (h.push (.cells (reps [Value.nilIface] l.length).toArray 164)):=Step.push0 S0 u h _ _
 have o0:OwnP h.size (ub u h.size 0) (h.push (.cells (reps [Value.nilIface] l.length).toArray 164)) (.slice (some ⟨h.size,0,none⟩) 0 l.length) []:=
  .inr ⟨h.size,l.length,rfl,Nat.zero_le _,by omega,Nat.le_refl _,by simp,by rw[e_hszpe rfl];show _=l.length*1;simp [reps],e_hfrpe rfl,ub_self,fun i x hx=>by simp at hx⟩
 refine⟨by omega,?_⟩
 obtain⟨I,hI⟩: ∃I:Nat→Env→H→Prop,I=fun i σ h'=>σ 1= .func (.func 125) #[] #[]∧σ 11= .slice la l.length lc∧σ 12= .int .i64 l.length∧σ 13= .int .i64 i∧i≤l.length∧
  ∃u',Step S0 u h u' h'∧OwnP h.size u' h' (σ 5) (l.take i):=⟨_,rfl⟩
 refine wpS_loop I (fun i=>l.length - i) 0 (by
  rw[hI]
  exact⟨by simp [upd],by simp [upd],by simp [upd],by simp [upd],Nat.zero_le _,_,s0,by simpa [upd]using o0⟩) ?_
 clear o0 s0
 intro i σ h' hy
 rw[hI]at hy
 obtain⟨e1,e11,e12,e13,hi,u',st,ho⟩:=hy
 by_cases hlt:i<l.length
 ·obtain⟨t,ht⟩: ∃t,l[i]? =some t:=⟨l[i],by simp [hlt]⟩
  obtain⟨tb,to,rfl,htb,htu,htz,htr⟩:=(hl.mono st.ge).row i t ht
  rw[rep_term]at htr
  simp only[Term.enc,sz_term,hvs_4,List.cons.injEq,and_true]at htr htu htz
  obtain⟨t0,t1,t2,t3⟩:=htr
  have sp:=Step.push0 S0 u' h' #[.int .i64 t.1,.int .i64 t.2.1,str t.2.2.1,.int .i64 t.2.2.2] 56
  simp(disch:=first|omega|(simp only[zz];try omega;done)) only[↓reduceIte,go_sem,prParts_L1,e1,e11,e12,e13,hlt,t0,t1,t2,t3]
  refine effS_callv ⟨rfl,ub u' h'.size 0,t,rfl,fun u2 h2 s2=>⟨zz0,?_⟩⟩
  have st2:=sp.trans0 s2
  have ho2:= @Own.step0 Term repPart _ _ _ _ _ _ _ ho st2
  have hkl:h.size≤h2.size:=(st.trans0 st2).ge.sz
  simp(disch:=first|omega|(simp only[zz];try omega;done)) only[↓reduceIte,go_sem]
  refine @effS_app1 Term repPart _ _ _ _ _ _ _ _ _ _ _ _ t _ _ _ _ _ _ ho2 rfl rfl rfl hkl (by rw[List.length_take];omega) fun a' n' c' u3 h3 ho3 s3=>⟨zz0,?_⟩
  simp(disch:=first|omega|(simp only[zz];try omega;done)) only[↓reduceIte,go_sem,e13]
  refine⟨i+1,?_,by omega⟩
  rw[hI]
  refine⟨by simp [upd,e1],by simp [upd,e11],by simp [upd,e12],by simp [upd],hlt,u3,(st.trans0 st2).trans s3 (fun j hj hB=>by have:= @Own.ge Term repPart _ _ _ _ _ ho2 _ hB;omega),?_⟩
  rw[List.take_add_one,ht,Option.toList_some]
  simpa [upd]using ho3
 ·obtain rfl:i=l.length:=by omega
  rw[List.take_length]at ho
  simp(disch:=first|omega|(simp only[zz];try omega;done)) only[↓reduceIte,go_sem,prParts_L1,e12,e13]
  exact hK _ _ _ st (@Own.isSl Term repPart _ _ _ _ _ ho)
theorem effS_inv {G:Ctr} {tab:List (TypeId×FuncId)} {g:FuncId} {ty:TypeId} {v:Value} {d:Option Nat} {st:Stab} {r:List St} {K:Env→H→Prop} {KP:List PanicEntry→H→Prop} {vs:List Value} {σ:Env} {h:H}
  (hg:tabGet tab ty=some g) (hc:G g (v::vs) h (fun v h'=>stabP st σ h h'∧wpSts G r K KP (updo σ d v) h') KP):effS G (.inv tab) d st r K KP (.iface ty v::vs) σ h:=by
 unfold effS fpre
 simp only[hg]
 exact hc
def C_between(vs:List Value)(h:H)(K:Value→H→Prop):Prop:= ∃(b:Nat) (v:Value) (l:List Term) (u0:U),vs=[.pointer (some ⟨b,0,none⟩),str [44,32],v]∧(∀t∈l,Rep.wf t∧termW t=0)∧l.length≤8∧
 ∃(k:Nat) (u:U) (m0:List UInt8),Bu k u h b m0∧m0.length≤4096∧PowT u h∧IsSlP u h v l∧
 ∀u' h' (m:List UInt8),Step (BldB h b) u h u' h'→Bu k u' h' b (m0++m)→m.length≤20480→(∀i,BldB h' b i→BldB h b i∨h.size≤i)→K (.tuple #[]) h'
def G_prBetween:Ctr:=fun f vs h K _=>(f=126∧C_wstr vs h K)∨(f=133∧C_termW vs h K)
theorem G_prBetween_ok:GOk Tryz.prog G_prBetween:=by
 rintro f vs h K KP (⟨rfl,hC⟩|⟨rfl,hC⟩)
 ·exact sbWriteString_ok hC
 ·exact prTermW_ok hC
theorem bld_chain{b:Nat}{ua ub uc:U}{ha hb hc:H}(p1:Step (BldB ha b) ua ha ub hb)(p2: ∀j,BldB hb b j→BldB ha b j∨ha.size≤j)(p3:Step (BldB hb b) ub hb uc hc)(p4: ∀j,BldB hc b j→BldB hb b j∨hb.size≤j):
  Step (BldB ha b) ua ha uc hc∧ ∀j,BldB hc b j→BldB ha b j∨ha.size≤j:=
 ⟨p1.trans p3 (fun j hj hB=>(p2 j hB).elim id (fun h=>by omega)),fun j hB=>(p4 j hB).elim (p2 j) (fun h=> .inr (Nat.le_trans p1.ge.sz h))⟩
theorem prBetween_ok(hC:C_between vs h K):HCX Tryz.prog 128 vs h K KP:=by
 obtain⟨b,v,l,-,rfl,hall,hlen,k,u,m0,B,hm0,hP,hl,hK⟩:=hC
 obtain⟨la,lc,rfl,q1,q2⟩:= @IsSl.sl Term repPart _ _ _ _ hl
 refine prBetween_H G_prBetween G_prBetween_ok _ _ _ ?_
 simp(disch:=first|omega|(simp only[zz];try omega;done)) only[↓reduceIte,go_sem,prBetween_S,prBetween_E]
 obtain⟨I,hI⟩: ∃I:Nat→Env→H→Prop,I=fun i σ h'=>σ 0= .pointer (some ⟨b,0,none⟩)∧σ 1=str [44,32]∧σ 8= .slice la l.length lc∧σ 9= .int .i64 l.length∧σ 10= .int .i64 i∧i≤l.length∧
  ∃(u':U) (m:List UInt8),Step (BldB h b) u h u' h'∧Bu k u' h' b (m0++m)∧m.length≤2050*i∧ ∀j,BldB h' b j→BldB h b j∨h.size≤j:=⟨_,rfl⟩
 refine wpS_loop I (fun i=>l.length - i) 0 (by
  rw[hI]
  exact⟨by simp [upd],by simp [upd],by simp [upd],by simp [upd],by simp [upd],Nat.zero_le _,u,[],.refl _ _ _,by simpa using B,by simp,fun j hB=> .inl hB⟩) ?_
 intro i σ h' hy
 rw[hI]at hy
 obtain⟨e0,e1,e8,e9,e10,hi,u',m,st,B',hm,hbb⟩:=hy
 by_cases hlt:i<l.length
 ·obtain⟨t,ht⟩: ∃t,l[i]? =some t:=⟨l[i],by simp [hlt]⟩
  obtain⟨w1,w2⟩:=hall t (List.mem_of_getElem? ht)
  obtain⟨tb,to,rfl,htb,htu,htz,htr⟩:= @IsSl.row Term repPart _ _ _ _ _ _ (@IsSl.mono Term repPart _ _ _ _ _ _ st.ge hl) i t ht
  have hsz: @Rep.sz Term repPart=1:=rfl
  rw[hsz]at htu htz htr
  have htr:Go.Ev.hv h' tb (to+i*1)= .iface 195 (.agg (Term.enc t).toArray):=by
   have:=(show hvs h' tb (to+i*1) 1=[.iface 195 (.agg (Term.enc t).toArray)]from htr)
   rw[hvs_1]at this
   simpa using this
  have fin: ∀(σ':Env) (u3:U) (h3:H) (x:List UInt8),σ' 0=σ 0→σ' 1=σ 1→σ' 8=σ 8→σ' 9=σ 9→σ' 10= .int .i64 ((i:Int)+1)→Step (BldB h' b) u' h' u3 h3→Bu k u3 h3 b (m0++m++x)→x.length≤2050→
    (∀j,BldB h3 b j→BldB h' b j∨h'.size≤j)→ ∃y,I y σ' h3∧l.length - y<l.length - i:=fun σ' u3 h3 x g0 g1 g8 g9 g10 s3 B3 hx hb3=>by
   refine⟨i+1,?_,by omega⟩
   rw[hI]
   obtain⟨c1,c2⟩:=bld_chain st hbb s3 hb3
   exact⟨by rw[g0,e0],by rw[g1,e1],by rw[g8,e8],by rw[g9,e9],g10,hlt,u3,m++x,c1,by rw[←List.append_assoc];exact B3,by rw[List.length_append];omega,c2⟩
  by_cases h0:i=0
  ·simp(disch:=first|omega|(simp only[zz];try omega;done)) only[↓reduceIte,go_sem,prBetween_L1,e0,e8,e9,e10,hlt,htr,eq_false (show¬(0:Int)<i by omega)]
   refine effS_inv rfl (.inr ⟨rfl,b,t,rfl,w1,w2,k,u',m0++m,B',by rw[List.length_append];omega,hP.mono st.ge,fun u3 h3 x s3 B3 hx hb3=>⟨zz0,?_⟩⟩)
   simp(disch:=first|omega|(simp only[zz];try omega;done)) only[↓reduceIte,go_sem,e10]
   exact fin _ u3 h3 x (by simp [upd]) (by simp [upd]) (by simp [upd]) (by simp [upd]) (by simp [upd]) s3 B3 (by omega) hb3
  ·simp(disch:=first|omega|(simp only[zz];try omega;done)) only[↓reduceIte,go_sem,prBetween_L1,e0,e1,e8,e9,e10,hlt,htr,eq_true (show(0:Int)<i by omega)]
   refine effS_call (.inl ⟨rfl,_,[44,32],rfl,k,u',b,m0++m,rfl,B',by rw[List.length_append];simp;omega,fun u2 h2 s2 B2 hb2=>⟨zz0,?_⟩⟩)
   simp(disch:=first|omega|(simp only[zz];try omega;done)) only[↓reduceIte,go_sem,e0]
   refine effS_inv rfl (.inr ⟨rfl,b,t,rfl,w1,w2,k,u2,_,B2,by simp;omega,hP.mono (st.ge.trans s2.ge),fun u3 h3 x s3 B3 hx hb3=>⟨zz0,?_⟩⟩)
   simp(disch:=first|omega|(simp only[zz];try omega;done)) only[↓reduceIte,go_sem,e10]
   obtain⟨c1,c2⟩:=bld_chain s2 hb2 s3 hb3
   rw[List.append_assoc (m0++m)]at B3
   exact fin _ u3 h3 _ (by simp [upd]) (by simp [upd]) (by simp [upd]) (by simp [upd]) (by simp [upd]) c1 B3 (by simp;omega) c2
 ·obtain rfl:i=l.length:=by omega
  simp(disch:=first|omega|(simp only[zz];try omega;done)) only[↓reduceIte,go_sem,prBetween_L1,e9,e10]
  exact hK u' h' m st B' (by omega) hbb
end Go.Proofs.YtmjinnbdnpedcaaGreat
end Merged
section Merged
namespace Edict
theorem firstW_all{α:Type}{f:α→Int}: ∀{l:List α},firstW f l=0→ ∀x∈l,f x=0
 |[],_,x,hx=>by cases hx
 |a::l,h,x,hx=>by
  unfold firstW at h
  by_cases e:f a=0
  ·rw[if_pos e]at h
   rcases List.mem_cons.1 hx with rfl|hx
   ·exact e
   ·exact firstW_all h x hx
  ·rw[if_neg e]at h;exact absurd h e
theorem atomW_zero{a:Atom}(h:atomW a=0):nameB a.1=true∧a.2.1.length≤8∧ ∀t∈a.2.1,termW t=0:=by
 unfold atomW at h
 by_cases h1:nameB a.1=true
 ·rw[if_pos h1]at h
  by_cases h2:8<a.2.1.length
  ·rw[if_pos h2]at h;cases h
  ·rw[if_neg h2]at h
   exact⟨h1,by omega,firstW_all h⟩
 ·rw[if_neg h1]at h;cases h
theorem name_ne{s:List UInt8}(h:nameB s=true):s≠[]:=by
 rintro rfl
 simp [nameB,wordB]at h
end Edict
namespace Go.Proofs.YtmjinnbdnpedcaaGreat
open Go Go.Ev Edict
variable {vs:List Value} {h:H} {K:Value→H→Prop} {KP:List PanicEntry→H→Prop}
def C_applied(vs:List Value)(h:H)(K:Value→H→Prop):Prop:= ∃(b:Nat) (p:List UInt8) (v:Value) (l:List Term) (k:Nat) (u:U),vs=[.pointer (some ⟨b,0,none⟩),str p,v]∧(∀t∈l,Rep.wf t∧termW t=0)∧l.length≤8∧p.length≤64∧p≠[]∧
 Bu k u h b []∧PowT u h∧IsSlP u h v l∧
 ∀u' h' (m:List UInt8),Step (BldB h b) u h u' h'→Bu k u' h' b m→m≠[]→m.length≤32768→K (.tuple #[]) h'
def G_prApplied:Ctr:=fun f vs h K _=>(f=126∧C_wstr vs h K)∨(f=127∧C_wbyte vs h K)∨(f=128∧C_between vs h K)
theorem G_prApplied_ok:GOk Tryz.prog G_prApplied:=by
 rintro f vs h K KP (⟨rfl,hC⟩|⟨rfl,hC⟩|⟨rfl,hC⟩)
 ·exact sbWriteString_ok hC
 ·exact sbWriteByte_ok hC
 ·exact prBetween_ok hC
theorem prApplied_ok(hC:C_applied vs h K):HCX Tryz.prog 123 vs h K KP:=by
 obtain⟨b,p,v,l,k,u,rfl,hall,hlen,hp,hpn,B,hP,hl,hK⟩:=hC
 obtain⟨la,lc,rfl,q1,q2⟩:= @IsSl.sl Term repPart _ _ _ _ hl
 refine prApplied_H G_prApplied G_prApplied_ok _ _ _ ?_
 simp(disch:=first|omega|(simp only[zz];try omega;done)) only[↓reduceIte,go_sem,prApplied_S,prApplied_E]
 refine effS_call (.inl ⟨rfl,_,p,rfl,k,u,b,[],rfl,B,by simp;omega,fun u1 h1 s1 B1 hb1=>⟨zz0,?_⟩⟩)
 rw[List.nil_append]at B1
 by_cases h0:l.length=0
 ·simp(disch:=first|omega|(simp only[zz];try omega;done)) only[↓reduceIte,go_sem,eq_false (show¬(0:Int)<l.length by omega)]
  exact hK u1 h1 p s1 B1 hpn (by omega)
 ·simp(disch:=first|omega|(simp only[zz];try omega;done)) only[↓reduceIte,go_sem,eq_true (show(0:Int)<l.length by omega)]
  refine effS_call (.inr (.inl ⟨rfl,_,40,rfl,k,u1,b,p,rfl,B1,by simp;omega,fun u2 h2 s2 B2 hb2=>⟨zz0,?_⟩⟩))
  obtain⟨c1,c2⟩:=bld_chain s1 hb1 s2 hb2
  simp(disch:=first|omega|(simp only[zz];try omega;done)) only[↓reduceIte,go_sem]
  refine effS_call (.inr (.inr ⟨rfl,b,_,l,u2,rfl,hall,hlen,k,u2,_,B2,by simp;omega,hP.mono c1.ge,@IsSl.mono Term repPart _ _ _ _ _ _ c1.ge hl,fun u3 h3 m s3 B3 hm hb3=>⟨zz0,?_⟩⟩))
  obtain⟨c3,c4⟩:=bld_chain c1 c2 s3 hb3
  simp(disch:=first|omega|(simp only[zz];try omega;done)) only[↓reduceIte,go_sem]
  refine effS_call (.inr (.inl ⟨rfl,_,41,rfl,k,u3,b,_,rfl,B3,by simp;omega,fun u4 h4 s4 B4 hb4=>⟨zz0,?_⟩⟩))
  obtain⟨c5,-⟩:=bld_chain c3 c4 s4 hb4
  simp(disch:=first|omega|(simp only[zz];try omega;done)) only[go_sem]
  exact hK u4 h4 _ c5 B4 (by simp) (by simp;omega)
def C_atomW(vs:List Value)(h:H)(K:Value→H→Prop):Prop:= ∃(b:Nat) (a:Atom) (v:Value) (k:Nat) (u:U),vs=[.agg #[str a.1,v,.int .i64 a.2.2],.pointer (some ⟨b,0,none⟩)]∧IsSl u h v a.2.1∧(∀t∈a.2.1,Rep.wf t)∧atomW a=0∧
 Bu k u h b []∧PowT u h∧ ∀u' h' (m:List UInt8),Step (BldB h b) u h u' h'→Bu k u' h' b m→m≠[]→m.length≤32768→K (.tuple #[]) h'
def G_prAtomW:Ctr:=fun f vs h K _=>(f=124∧C_parts vs h K)∨(f=123∧C_applied vs h K)
theorem G_prAtomW_ok:GOk Tryz.prog G_prAtomW:=by
 rintro f vs h K KP (⟨rfl,hC⟩|⟨rfl,hC⟩)
 ·exact prParts_ok hC
 ·exact prApplied_ok hC
theorem prAtomW_ok(hC:C_atomW vs h K):HCX Tryz.prog 122 vs h K KP:=by
 obtain⟨b,a,v,k,u,rfl,hl,hw,ha,B,hP,hK⟩:=hC
 obtain⟨z1,z2,z3⟩:=atomW_zero ha
 obtain⟨la,lc,rfl,q1,q2⟩:=hl.sl
 refine prAtomW_H G_prAtomW G_prAtomW_ok _ _ ?_
 have sp:Step S0 u h _ _:=Step.push0 S0 u h #[str a.1,.slice la a.2.1.length lc,.int .i64 a.2.2] 156
 have X:Blk (ub u h.size 0) (h.push (.cells #[str a.1,.slice la a.2.1.length lc,.int .i64 a.2.2] 156)) h.size [str a.1,.slice la a.2.1.length lc,.int .i64 a.2.2]:=(Blk.mk (by simp only[e_psz];omega) (by simp(disch:=first|omega|(simp only[zz];try omega;done)) only[go_sem]) (by simp(disch:=first|omega|(simp only[zz];try omega;done)) only[go_sem]) (by repeat (first|(refine ub_at ?_;simp only[];done)|apply ub_zero)) (by simp(disch:=first|omega|(simp only[zz];try omega;done)) only[go_sem]))
 simp(disch:=first|omega|(simp only[zz];try omega;done)) only[↓reduceIte,go_sem,prAtomW_S,prAtomW_E]
 refine effS_call (.inl ⟨rfl,ub u h.size 0,_,a.2.1,rfl,hl.mono sp.ge,by omega,fun u1 h1 w s1 hw1=>⟨?_,?_⟩⟩)
 ·have X1:=X.step0 s1
  simp(disch:=first|omega|(simp only[zz];try omega;done)) only[↓reduceIte,go_sem,X.at,X1.at,X1.2.1]
 have st1:=sp.trans0 s1
 obtain⟨B1,e1⟩:=B.step0 st1
 simp(disch:=first|omega|(simp only[zz];try omega;done)) only[↓reduceIte,go_sem]
 refine effS_call (.inr ⟨rfl,b,a.1,w,a.2.1,k,u1,rfl,fun t ht=>⟨hw t ht,z3 t ht⟩,z2,name_len z1,name_ne z1,B1,hP.mono st1.ge,hw1,fun u2 h2 m s2 B2 hm hml=>⟨zz0,?_⟩⟩)
 have eB: ∀j,BldB h1 b j→BldB h b j:=fun j hB=>hB.imp id fun hB=>by rw[e1]at hB;exact hB
 simp(disch:=first|omega|(simp only[zz];try omega;done)) only[go_sem]
 exact hK u2 h2 m ((st1.mono (S':=BldB h b) (fun _ _ h=>h.elim)).trans s2 (fun j _ hB=>eB j hB)) B2 hm hml
def C_textA(vs:List Value)(h:H)(K:Value→H→Prop):Prop:= ∃(a:Atom) (v:Value) (u:U),vs=[.int .i64 (atomW a),.iface 156 (.agg #[str a.1,v,.int .i64 a.2.2])]∧IsSl u h v a.2.1∧(∀t∈a.2.1,Rep.wf t)∧PowT u h∧
 ∀u' h' (s:List UInt8),Step S0 u h u' h'→(s=[]↔atomW a≠0)→K (str s) h'
def G_prText:Ctr:=fun f vs h K _=>(f=122∧C_atomW vs h K)∨(f=91∧C_bstring vs h K)
theorem G_prText_ok:GOk Tryz.prog G_prText:=by
 rintro f vs h K KP (⟨rfl,hC⟩|⟨rfl,hC⟩)
 ·exact prAtomW_ok hC
 ·exact sbString_ok hC
theorem prText_ok(hC:C_textA vs h K):HCX Tryz.prog 81 vs h K KP:=by
 obtain⟨a,v,u,rfl,hl,hw,hP,hK⟩:=hC
 refine prText_H G_prText G_prText_ok _ _ ?_
 by_cases h0:atomW a=0
 ·simp(disch:=first|omega|(simp only[zz];try omega;done)) only[↓reduceIte,go_sem,prText_S,prText_E,eq_true h0]
  have sp:Step S0 u h _ _:=Step.push0 S0 u h #[.pointer none,.slice none 0 0] 168
  have B:=Bu.new u h
  refine effS_inv rfl (.inl ⟨rfl,h.size,a,v,h.size,ub u h.size 0,rfl,hl.mono sp.ge,hw,h0,B,hP.mono sp.ge,fun u1 h1 m s1 B1 hm _=>⟨zz0,?_⟩⟩)
  have st1:Step S0 u h u1 h1:=sp.trans s1 (fun i hi hB=>by have:=(B.ge hB).1;omega)
  simp(disch:=first|omega|(simp only[zz];try omega;done)) only[↓reduceIte,go_sem]
  refine effS_call (.inr ⟨rfl,h.size,u1,h.size,m,rfl,B1,hm,fun h2 hs hb=>⟨zz0,?_⟩⟩)
  simp(disch:=first|omega|(simp only[zz];try omega;done)) only[↓reduceIte,go_sem]
  exact hK u1 h2 m (Step.below st1 hs hb) ⟨fun e=>absurd e hm,fun e=>absurd h0 e⟩
 ·simp(disch:=first|omega|(simp only[zz];try omega;done)) only[↓reduceIte,go_sem,prText_S,prText_E,eq_false h0]
  exact hK u h [] (.refl _ _ _) ⟨fun _=>h0,fun _=>rfl⟩
def C_pAtom(vs:List Value)(h:H)(K:Value→H→Prop):Prop:= ∃(a:Atom) (v:Value) (u:U),vs=[.agg #[str a.1,v,.int .i64 a.2.2]]∧IsSl u h v a.2.1∧Rep.wf a∧PowT u h∧
 ∀u' h' (s:List UInt8),Step S0 u h u' h'→(s=[]↔atomW a≠0)→K (str s) h'
def G_prAtom:Ctr:=fun f vs h K _=>(f=78∧C_data (vI atomW) vs h K)∨(f=81∧C_textA vs h K)
theorem G_prAtom_ok:GOk Tryz.prog G_prAtom:=by
 rintro f vs h K KP (⟨rfl,hC⟩|⟨rfl,hC⟩)
 ·exact prWellAtom_ok hC
 ·exact prText_ok hC
theorem prAtom_ok(hC:C_pAtom vs h K):HCX Tryz.prog 68 vs h K KP:=by
 obtain⟨a,v,u,rfl,hl,hw,hP,hK⟩:=hC
 obtain⟨la,lc,rfl,q1,q2⟩:=hl.sl
 refine prAtom_H G_prAtom G_prAtom_ok _ ?_
 have sp:Step S0 u h _ _:=Step.push0 S0 u h #[str a.1,.slice la a.2.1.length lc,.int .i64 a.2.2] 48
 have X:Blk (ub u h.size 0) (h.push (.cells #[str a.1,.slice la a.2.1.length lc,.int .i64 a.2.2] 48)) h.size [str a.1,.slice la a.2.1.length lc,.int .i64 a.2.2]:=(Blk.mk (by simp only[e_psz];omega) (by simp(disch:=first|omega|(simp only[zz];try omega;done)) only[go_sem]) (by simp(disch:=first|omega|(simp only[zz];try omega;done)) only[go_sem]) (by repeat (first|(refine ub_at ?_;simp only[];done)|apply ub_zero)) (by simp(disch:=first|omega|(simp only[zz];try omega;done)) only[go_sem]))
 simp(disch:=first|omega|(simp only[zz];try omega;done)) only[↓reduceIte,go_sem,prAtom_S,prAtom_E]
 refine effS_call (.inl ⟨rfl,ub u h.size 0,a,[str a.1,.slice la a.2.1.length lc,.int .i64 a.2.2],rfl,by rw[rep_atom];exact⟨_,rfl,hl.mono sp.ge⟩,hw,fun u1 h1 s1=>⟨?_,?_⟩⟩)
 ·have X1:=X.step0 s1
  simp(disch:=first|omega|(simp only[zz];try omega;done)) only[↓reduceIte,go_sem,X.at,X1.at,X1.2.1]
 have st1:=sp.trans0 s1
 simp only[vI]
 simp(disch:=first|omega|(simp only[zz];try omega;done)) only[↓reduceIte,go_sem]
 refine effS_call (.inr ⟨rfl,a,_,u1,rfl,hl.mono st1.ge,hw.2.1.2,hP.mono st1.ge,fun u2 h2 s s2 hs=>⟨zz0,?_⟩⟩)
 simp(disch:=first|omega|(simp only[zz];try omega;done)) only[↓reduceIte,go_sem]
 exact hK u2 h2 s (st1.trans0 s2) hs
end Go.Proofs.YtmjinnbdnpedcaaGreat
end Merged
