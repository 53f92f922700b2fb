/- The reference's Build: positive atoms. -/
import Derived.Test.YtmjinnbdnpedcaaGreatCbJ
namespace Edict
theorem slotsR_snoc(cs:List Const): ∀(l:List Term) (V:Strs) (t:Term),slotsR cs V (l++[t])=slotsR cs V l++[if looseB (l.foldl varT V) t then(true,((l.foldl varT V).length:Int))else slotR cs (l.foldl varT V) t]
 |[],V,t=>rfl
 |x::l,V,t=>by
  rw[List.cons_append,slotsR,slotsR,slotsR_snoc cs l,List.cons_append,List.foldl_cons]
theorem slotsR_len(cs:List Const): ∀(l:List Term) (V:Strs),(slotsR cs V l).length=l.length
 |[],_=>rfl
 |x::l,V=>by rw[slotsR,List.length_cons,List.length_cons,slotsR_len cs l]
end Edict
namespace Go.Proofs.YtmjinnbdnpedcaaGreat
open Go Go.Ev Edict
structure FrN (n:Nat) (u:U) (h:H) (f:Nat) (ps:List Pred) (cs:List Const):Prop where
 ex: ∃vps b,f<n∧b<n∧Blk u h f [vps,.pointer (some ⟨b,0,none⟩)]∧IsSl u h vps ps∧BookB u h b cs
theorem FrN.b{n:Nat}{u:U}{h:H}{f:Nat}{ps:List Pred}{cs:List Const}(k:FrN n u h f ps cs):FrB u h f ps cs:=by
 obtain⟨vps,b,-,-,h1,h2,h3⟩:=k.ex
 exact⟨vps,b,h1,h2,h3⟩
theorem FrN.step{n:Nat}{S:Nat→Prop}{u u':U}{h h':H}{f:Nat}{ps:List Pred}{cs:List Const}(k:FrN n u h f ps cs)(s:Step S u h u' h')(hn: ∀j,S j→n≤j):FrN n u' h' f ps cs:=by
 obtain⟨vps,b,l1,l2,h1,h2,h3⟩:=k.ex
 exact⟨vps,b,l1,l2,h1.step s (fun e=>by have:=hn _ e;omega),h2.mono s.ge,h3.step s (fun e=>by have:=hn _ e;omega)⟩
theorem FrN.step0{n:Nat}{u u':U}{h h':H}{f:Nat}{ps:List Pred}{cs:List Const}(k:FrN n u h f ps cs)(s:Step S0 u h u' h'):FrN n u' h' f ps cs:=k.step s fun _ e=>e.elim
def C_positive(vs:List Value)(h:H)(K:Value→H→Prop):Prop:= ∃(u:U) (k f:Nat) (ps:List Pred) (cs:List Const) (a:Atom) (l:List Value) (v:Value) (V:Strs),vs=[.pointer (some ⟨f,0,none⟩),.agg l.toArray,v]∧Rep.rep u h a l∧FrN k u h f ps cs∧Own k u h v V∧k≤h.size∧a.2.1.length≤1000000∧V.length≤1000000∧(∀t∈a.2.1,t.1≠4→cnst t∈cs)∧
 ∀u' h' l' v',Step (OwnB v) u h u' h'→Rep.rep u' h' ((predI ps a.1,slotsR cs V a.2.1):Pattern) l'→Own k u' h' v' (a.2.1.foldl varT V)→(∀b,OwnB v' b→OwnB v b∨h.size≤b)→K (.tuple #[.agg l'.toArray,v']) h'
def G_rfPositive:Ctr:=fun f vs h K _=>(f=35∧C_pred vs h K)∨(f=44∧C_slot vs h K)∨(f=61∧C_loose vs h K)
theorem G_rfPositive_ok:GOk Tryz.prog G_rfPositive:=by
 rintro f vs h K KP (⟨rfl,hC⟩|⟨rfl,hC⟩|⟨rfl,hC⟩)
 ·exact rfPred_ok hC
 ·exact rfSlot_ok hC
 ·exact rfLoose_ok hC
theorem rfPositive_ok{vs:List Value}{h:H}{K:Value→H→Prop}{KP:List PanicEntry→H→Prop}(hC:C_positive vs h K):HCX Tryz.prog 43 vs h K KP:=by
 obtain⟨u,k,f,ps,cs,a,l,v,V,rfl,ha,hF,hV,hkz,hal,hVl,hac,hK⟩:=hC
 obtain⟨va,vc,hve,q1,q2⟩:=hV.sl
 rw[rep_atom]at ha
 obtain⟨aw,rfl,haa⟩:=ha
 obtain⟨aa,ac,rfl,q3,q4⟩:=haa.sl
 have hm:=mlen'
 refine rfPositive_H G_rfPositive G_rfPositive_ok _ _ _ ?_
 have s1:=Step.push0 S0 u h #[str a.1,.slice aa a.2.1.length ac,.int .i64 a.2.2] 48
 have B1:=Blk.new (u:=u) (h:=h) [str a.1,.slice aa a.2.1.length ac,.int .i64 a.2.2] 48
 have s2:=Step.push0 S0 (ub u h.size 0) (h.push (.cells #[str a.1,.slice aa a.2.1.length ac,.int .i64 a.2.2] 48)) #[.int .i64 0,.slice none 0 0] 74
 have B2:=Blk.new (u:=ub u h.size 0) (h:=h.push (.cells #[str a.1,.slice aa a.2.1.length ac,.int .i64 a.2.2] 48)) [.int .i64 0,.slice none 0 0] 74
 have B1:=B1.step0 s2
 have st2:=s1.trans0 s2
 obtain⟨u2,hu2⟩: ∃u2,u2=ub (ub u h.size 0) (h.push (.cells #[str a.1,.slice aa a.2.1.length ac,.int .i64 a.2.2] 48)).size 0:=⟨_,rfl⟩
 obtain⟨h2,hh2⟩: ∃h2,h2=(h.push (.cells #[str a.1,.slice aa a.2.1.length ac,.int .i64 a.2.2] 48)).push (.cells #[.int .i64 0,.slice none 0 0] 74):=⟨_,rfl⟩
 have hz2:h2.size=h.size+2:=by rw[hh2];simp only[e_psz]
 have B2:Blk u2 h2 (h.size+1) [.int .i64 0,.slice none 0 0]:=by rw[hu2,hh2];simpa only[e_psz]using B2
 have B1:Blk u2 h2 h.size [str a.1,.slice aa a.2.1.length ac,.int .i64 a.2.2]:=by rw[hu2,hh2];exact B1
 have st2:Step S0 u h u2 h2:=by rw[hu2,hh2];exact st2
 have b1l:=B1.1
 have b2l:=B2.1
 obtain⟨vps,b,hFb,hFp,hFB⟩:=(hF.b.step0 st2).ex
 have hfl:=hFb.1
 simp(disch:=first|omega|(simp only[zz];try omega;done)) only[↓reduceIte,go_sem,rfPositive_S,rfPositive_E,←hh2]
 obtain⟨M,hM⟩: ∃M:Env→H→Prop,M=fun σ' h3=> ∃u3,PatM u h f h.size (h.size+1) 8 [str a.1,.slice aa a.2.1.length ac,.int .i64 a.2.2] (predI ps a.1) σ' u3 h3∧σ' 2=v:=⟨_,rfl⟩
 refine w_join M ?_ ?_
 ·have sp:=Step.push0 S0 u2 h2 #[.int .i64 (predI ps a.1),.slice none 0 0] 74
  have P3:=Blk.new (u:=u2) (h:=h2) [.int .i64 (predI ps a.1),.slice none 0 0] 74
  rw[hz2]at P3
  have fin: ∀σ':Env,σ' 0= .pointer (some ⟨f,0,none⟩)→σ' 2=v→σ' 4= .pointer (some ⟨h.size,0,none⟩)→σ' 6= .pointer (some ⟨h.size+1,0,none⟩)→σ' 8= .pointer (some ⟨h2.size,0,none⟩)→M σ' (h2.push (.cells #[.int .i64 (predI ps a.1),.slice none 0 0] 74)):=fun σ' g0 g2 g4 g6 g7=>by
   rw[hM]
   exact⟨_,⟨st2.trans0 sp,g0,g4,g6,by rw[g7,hz2],by simp only[e_psz];omega,B1.step0 sp,B2.step0 sp,by rw[hz2];exact P3⟩,g2⟩
  simp(disch:=first|omega|(simp only[zz];try omega;done)) only[↓reduceIte,go_sem,w_both,B1.at,B1.2.1,hFb.at,hFb.2.1]
  refine⟨effS_call (.inl ⟨rfl,u2,vps,ps,a.1,rfl,hFp,by simp(disch:=first|omega|(simp only[zz];try omega;done)) only[go_sem],?_⟩),?_⟩
  ·simp(disch:=first|omega|(simp only[zz];try omega;done)) only[↓reduceIte,go_sem]
   exact fin _ (by simp [upd]) (by simp [upd]) (by simp [upd]) (by simp [upd]) (by simp [upd])
  ·have sp0:=Step.push0 S0 u2 h2 #[.int .i64 0,.slice none 0 0] 74
   refine effS_call (.inl ⟨rfl,_,vps,ps,a.1,rfl,hFp.mono sp0.ge,by simp(disch:=first|omega|(simp only[zz];try omega;done)) only[go_sem],?_⟩)
   simp(disch:=first|omega|(simp only[zz];try omega;done)) only[↓reduceIte,go_sem]
   exact fin _ (by simp [upd]) (by simp [upd]) (by simp [upd]) (by simp [upd]) (by simp [upd])
 intro σ3 h3 hM3
 rw[hM]at hM3
 obtain⟨u3,⟨st3,g0,g4,g6,g7,hz3,A3,R3,P3⟩,g2⟩:=hM3
 clear hM M
 have hVlt: ∀j,OwnB v j→j<h.size:=fun j hj=>hV.lt hj
 simp(disch:=first|omega|(simp only[zz];try omega;done)) only[go_sem]
 obtain⟨I,hI⟩: ∃I:Nat→Env→H→Prop,I=fun i σ h'=>σ 0= .pointer (some ⟨f,0,none⟩)∧σ 4= .pointer (some ⟨h.size,0,none⟩)∧σ 6= .pointer (some ⟨h.size+1,0,none⟩)∧σ 8= .pointer (some ⟨h.size+2,0,none⟩)∧σ 9= .int .i64 i∧i≤a.2.1.length∧
  ∃u' w,Step (OwnB v) u h u' h'∧h.size+3≤h'.size∧Blk u' h' h.size [str a.1,.slice aa a.2.1.length ac,.int .i64 a.2.2]∧Blk u' h' (h.size+1) [.int .i64 0,.slice none 0 0]∧Blk u' h' (h.size+2) [.int .i64 (predI ps a.1),w]∧Own (h.size+3) u' h' w (slotsR cs V (a.2.1.take i))∧Own k u' h' (σ 2) ((a.2.1.take i).foldl varT V)∧(∀j,OwnB w j→ ¬OwnB (σ 2) j)∧ ∀j,OwnB (σ 2) j→OwnB v j∨h.size+3≤j:=⟨_,rfl⟩
 refine wpS_loop I (fun i=>a.2.1.length - i) 0 (by
  rw[hI]
  have st3':Step (OwnB v) u h u3 h3:=st3.mono fun _ _ e=>e.elim
  exact⟨by simp [upd,g0],by simp [upd,g4],by simp [upd,g6],by simp [upd,g7],by simp [upd],Nat.zero_le _,u3,_,st3',by omega,A3,R3,P3,.nil _ _ _,by simpa [upd,g2]using hV.step0 st3,(fun j hj=>by obtain⟨_,_,_,e⟩:=hj;cases e),fun j hj=> .inl (by simpa [upd,g2]using hj)⟩) ?_
 clear g0 g2 g4 g6 g7 st3 hz3 A3 R3 P3
 intro i σ h' hy
 rw[hI]at hy
 obtain⟨e0,e4,e6,e8,e9,hi,u',w,st,hz,A,R,P,ho,hv,hdis,hown⟩:=hy
 have al:=A.1
 have rl:=R.1
 have pl:=P.1
 by_cases hlt:i<a.2.1.length
 ·obtain⟨x,hs⟩: ∃x,a.2.1[i]? =some x:=⟨a.2.1[i],by simp [hlt]⟩
  obtain⟨pb,po,rfl,hpb,hpu,hpz,hpr⟩:=(haa.mono st.ge).row i x hs
  simp only[rep_term,Term.enc,sz_term,hvs_4,List.cons.injEq,and_true]at hpr hpu hpz
  obtain⟨p0,p1,p2,p3⟩:=hpr
  have htk:a.2.1.take (i+1)=a.2.1.take i++[x]:=by rw[List.take_add_one,hs];rfl
  have hSn:=slotsR_snoc cs (a.2.1.take i) V x
  have hVn:(a.2.1.take (i+1)).foldl varT V=varT ((a.2.1.take i).foldl varT V) x:=fold_snoc hs
  rw[←htk]at hSn
  have hVL:((a.2.1.take i).foldl varT V).length≤2000000:=by
   have:=varsT_len (a.2.1.take i) V
   rw[List.length_take]at this;omega
  have hSL:(slotsR cs V (a.2.1.take i)).length≤1000000:=by rw[slotsR_len,List.length_take];omega
  obtain⟨Vi,hVi⟩: ∃Vi,Vi=(a.2.1.take i).foldl varT V:=⟨_,rfl⟩
  obtain⟨Si,hSi⟩: ∃Si,Si=slotsR cs V (a.2.1.take i):=⟨_,rfl⟩
  rw[←hVi]at hv hSn hVn hVL
  rw[←hSi]at ho hSn hSL
  obtain⟨sa,sc,hσ2,-,-⟩:=hv.sl
  obtain⟨wa,wc,rfl,-,-⟩:=ho.sl
  rw[hσ2]at hv hdis hown
  have sX:=Step.push0 S0 u' h' #[.int .i64 x.1,.int .i64 x.2.1,str x.2.2.1,.int .i64 x.2.2.2] 56
  have X1:=Blk.new (u:=u') (h:=h') [.int .i64 x.1,.int .i64 x.2.1,str x.2.2.1,.int .i64 x.2.2.2] 56
  simp(disch:=first|omega|(simp only[zz];try omega;done)) only[↓reduceIte,go_sem,rfPositive_L1,hσ2,e4,e9,A.at,A.2.1,hlt,p0,p1,p2,p3]
  have hvX:=hv.step0 sX
  refine effS_call (.inr (.inr ⟨rfl,_,x,_,Vi,rfl,hvX.isSl,fun u4 h4 s4=>⟨zz0,?_⟩⟩))
  have sX4:=sX.trans0 s4
  have st4:Step (OwnB v) u h u4 h4:=st.trans sX4 fun _ _ e=>e.elim
  have A4:=A.step0 sX4
  have R4:=R.step0 sX4
  have P4:=P.step0 sX4
  have X4:=X1.step0 s4
  have ho4:=ho.step0 sX4
  have hv4:=hv.step0 sX4
  have hz4:=sX4.ge.sz
  have hF4:FrN k u4 h4 f ps cs:=hF.step st4 fun j hj=>hV.ge hj
  have p4l:=P4.1
  have x4l:=X4.1
  have hzs:=s4.ge.sz
  simp only[e_psz]at hzs
  have hx2:h.size+3≤h'.size:=hz
  cases hlo:looseB Vi x with
  |true=>
   rw[hlo,if_pos rfl]at hSn
   rw[varT_loose hlo]at hVn
   have hrx:Rep.rep u4 h4 ((true,(Vi.length:Int)):Slot) [.bool true,.int .i64 Vi.length]:=by rw[rep_slot]
   simp(disch:=first|omega|(simp only[zz];try omega;done)) only[↓reduceIte,go_sem,hσ2,e8,P4.at,P4.2.1]
   refine effS_app1o (e':=123) (cs:=[.bool true,.int .i64 Vi.length]) rfl ho4 hrx rfl rfl (by omega) (by omega) fun a6 n6 c6 u6 h6 o6 s6 w6=>⟨zz0,?_⟩
   have st6:Step (OwnB v) u h u6 h6:=st4.trans s6 fun j hj e=>by have:=ho4.ge e;omega
   have A6:=A4.step s6 fun hj=>by have:=ho4.ge hj;omega
   have R6:=R4.step s6 fun hj=>by have:=ho4.ge hj;omega
   have P6:=P4.step s6 fun hj=>by have:=ho4.ge hj;omega
   have X6:=X4.step s6 fun hj=>by have:=ho.lt hj;omega
   have hv6:=hv4.step s6 fun b hb hb2=>hdis b hb2 hb
   have hz6:=s6.ge.sz
   obtain⟨xa6,xc6,hx6,-,-⟩:=o6.sl
   cases hx6
   obtain⟨W,hW⟩: ∃W,W=Si++[(true,(Vi.length:Int))]:=⟨_,rfl⟩
   have hWl:Si.length+1=W.length:=by rw[hW,List.length_append];rfl
   rw[←hW]at o6 hSn ⊢
   have d6: ∀j,OwnB (.slice a6 W.length c6) j→ ¬OwnB (.slice sa Vi.length sc) j:=fun j hj hj2=>by
    rcases w6 j (by rw[←hW];exact hj)with h|h
    ·exact hdis j h hj2
    ·have:=hv4.lt hj2;omega
   have sw:=P6.stepSet (i:=1) (v:= .slice a6 W.length c6)
   have P7:Blk u6 (hset h6 (h.size+2) 1 (.slice a6 W.length c6)) (h.size+2) [.int .i64 (predI ps a.1),.slice a6 W.length c6]:=P6.set (i:=1) (v:= .slice a6 W.length c6) (by simp)
   have A7:=A6.step sw fun e=>by have e:h.size=h.size+2:=e;omega
   have R7:=R6.step sw fun e=>by have e:h.size+1=h.size+2:=e;omega
   have X7:=X6.step sw fun e=>by have e:h'.size=h.size+2:=e;omega
   have o7:=o6.step sw fun b hb e=>by have e:b=h.size+2:=e;have:=o6.ge hb;omega
   have hv7:=hv6.step sw fun b hb e=>by
    have e:b=h.size+2:=e
    rcases hown b hb with h|h
    ·have:=hVlt b h;omega
    ·omega
   have st7:Step (OwnB v) u h u6 (hset h6 (h.size+2) 1 (.slice a6 W.length c6)):=st6.trans sw fun j hj e=>by have e:j=h.size+2:=e;omega
   have hz7:=sw.ge.sz
   have p6l:=P6.1
   have x6l:=X6.1
   simp(disch:=first|omega|(simp only[zz];try omega;done)) only[↓reduceIte,go_sem,hσ2,e8,P6.2.1,P6.2.2.1]
   obtain⟨h7,hh7⟩: ∃h7,h7=hset h6 (h.size+2) 1 (.slice a6 W.length c6):=⟨_,rfl⟩
   have hsz7:h6.size=h7.size:=by rw[hh7,e_ssz]
   rw[←hh7]at sw P7 A7 R7 X7 o7 hv7 st7 hz7
   have x7l:=X7.1
   have hrt:Rep.rep u6 h7 x.2.2.1 [str x.2.2.1]:=by rw[rep_str]
   simp(disch:=first|omega|(simp only[zz];try omega;done)) only[go_sem,←hh7,X7.at,X6.2.1]
   refine effS_app1o (e':=9) (cs:=[str x.2.2.1]) hsz7 hv7 hrt rfl rfl (by omega) (by omega) fun a8 n8 c8 u8 h8 o8 s8 w8=>⟨zz0,?_⟩
   have hge: ∀j,OwnB (.slice sa Vi.length sc) j→OwnB v j∨h.size+3≤j:=hown
   have no8: ∀j,j<h.size+3→h.size≤j→ ¬OwnB (.slice sa Vi.length sc) j:=fun j h1 h2 hj=>by
    rcases hge j hj with h|h
    ·have:=hVlt j h;omega
    ·omega
   have st8:Step (OwnB v) u h u8 h8:=st7.trans s8 fun j hj e=>by
    rcases hge j e with h|h
    ·exact h
    ·omega
   have A8:=A7.step s8 (no8 _ (by omega) (by omega))
   have R8:=R7.step s8 (no8 _ (by omega) (by omega))
   have P8:=P7.step s8 (no8 _ (by omega) (by omega))
   have o9:=o7.step s8 fun b hb hb2=>d6 b hb hb2
   have hz8:=s8.ge.sz
   simp(disch:=first|omega|(simp only[zz];try omega;done)) only[↓reduceIte,go_sem,e9]
   refine⟨i+1,?_,by omega⟩
   rw[hI]
   refine⟨by simp [upd,e0],by simp [upd,e4],by simp [upd,e6],by simp [upd,e8],by simp [upd],hlt,u8,_,st8,by omega,A8,R8,P8,by rw[hSn];exact o9,by rw[hVn];simpa [upd]using o8,?_,?_⟩
   ·intro j hj hj2
    have hj2:OwnB (.slice a8 n8 c8) j:=by simpa [upd]using hj2
    rcases w8 j hj2 with h|h
    ·exact d6 j hj h
    ·have:=o7.lt hj;omega
   ·intro j hj
    have hj:OwnB (.slice a8 n8 c8) j:=by simpa [upd]using hj
    rcases w8 j hj with h|h
    ·exact hge j h
    ·exact .inr (by omega)
  |false=>
   rw[hlo,if_neg (by simp)]at hSn
   rw[varT_bound hlo]at hVn
   simp(disch:=first|omega|(simp only[zz];try omega;done)) only[↓reduceIte,go_sem,e0,hσ2,X4.at,X4.2.1]
   refine effS_call (.inr (.inl ⟨rfl,u4,f,ps,cs,x,_,Vi,rfl,hF4.b,hv4.isSl,hac x (List.mem_of_getElem? hs),fun u5 h5 s5=>⟨zz0,?_⟩⟩))
   obtain⟨S,hS⟩: ∃S,S=slotR cs Vi x:=⟨_,rfl⟩
   rw[←hS]at hSn ⊢
   have hse:(Slot.enc S).toArray= #[.bool S.1,.int .i64 S.2]:=rfl
   rw[hse]
   have sp:=Step.push0 S0 u5 h5 #[.bool S.1,.int .i64 S.2] 123
   have s45:=s5.trans0 sp
   have st5:Step (OwnB v) u h _ _:=st4.trans s45 fun _ _ e=>e.elim
   have A5:=A4.step0 s45
   have R5:=R4.step0 s45
   have P5:=P4.step0 s45
   have P5':=P4.step0 s5
   have ho5:=ho4.step0 s45
   have hv5:=hv4.step0 s45
   have p5l:=P5'.1
   have hz5:=s5.ge.sz
   have hrx:Rep.rep (ub u5 h5.size 0) (h5.push (.cells #[.bool S.1,.int .i64 S.2] 123)) S [.bool S.1,.int .i64 S.2]:=by rw[rep_slot]
   simp(disch:=first|omega|(simp only[zz];try omega;done)) only[↓reduceIte,go_sem,e8,P5'.at,P5'.2.1]
   refine effS_app1o (e':=123) (cs:=[.bool S.1,.int .i64 S.2]) (by simp only[e_psz]) ho5 hrx rfl rfl (by simp only[e_psz];omega) (by omega) fun a6 n6 c6 u6 h6 o6 s6 w6=>⟨zz0,?_⟩
   have st6:Step (OwnB v) u h u6 h6:=st5.trans s6 fun j hj e=>by have:=ho5.ge e;omega
   have A6:=A5.step s6 fun hj=>by have:=ho5.ge hj;omega
   have R6:=R5.step s6 fun hj=>by have:=ho5.ge hj;omega
   have P6:=P5.step s6 fun hj=>by have:=ho5.ge hj;omega
   have hv6:=hv5.step s6 fun b hb hb2=>hdis b hb2 hb
   have hz6:=s6.ge.sz
   simp only[e_psz]at hz6
   obtain⟨xa6,xc6,hx6,-,-⟩:=o6.sl
   cases hx6
   obtain⟨W,hW⟩: ∃W,W=Si++[S]:=⟨_,rfl⟩
   have hWl:Si.length+1=W.length:=by rw[hW,List.length_append];rfl
   rw[←hW]at o6 hSn ⊢
   have d6: ∀j,OwnB (.slice a6 W.length c6) j→ ¬OwnB (.slice sa Vi.length sc) j:=fun j hj hj2=>by
    rcases w6 j (by rw[←hW];exact hj)with h|h
    ·exact hdis j h hj2
    ·have:=hv5.lt hj2
     simp only[e_psz]at h this
     have:=hv4.lt hj2
     omega
   have sw:=P6.stepSet (i:=1) (v:= .slice a6 W.length c6)
   have P7:Blk u6 (hset h6 (h.size+2) 1 (.slice a6 W.length c6)) (h.size+2) [.int .i64 (predI ps a.1),.slice a6 W.length c6]:=P6.set (i:=1) (v:= .slice a6 W.length c6) (by simp)
   have A7:=A6.step sw fun e=>by have e:h.size=h.size+2:=e;omega
   have R7:=R6.step sw fun e=>by have e:h.size+1=h.size+2:=e;omega
   have o7:=o6.step sw fun b hb e=>by have e:b=h.size+2:=e;have:=o6.ge hb;omega
   have hv7:=hv6.step sw fun b hb e=>by
    have e:b=h.size+2:=e
    rcases hown b hb with h|h
    ·have:=hVlt b h;omega
    ·omega
   have st7:Step (OwnB v) u h u6 (hset h6 (h.size+2) 1 (.slice a6 W.length c6)):=st6.trans sw fun j hj e=>by have e:j=h.size+2:=e;omega
   have hz7:=sw.ge.sz
   have p6l:=P6.1
   simp(disch:=first|omega|(simp only[zz];try omega;done)) only[↓reduceIte,go_sem,e8,e9,P6.2.1,P6.2.2.1]
   refine⟨i+1,?_,by omega⟩
   rw[hI]
   exact⟨by simp [upd,e0],by simp [upd,e4],by simp [upd,e6],by simp [upd,e8],by simp [upd],hlt,u6,.slice a6 W.length c6,st7,by omega,A7,R7,P7,by rw[hSn];exact o7,by rw[hVn];simpa [upd,hσ2]using hv7,fun j hj hj2=>d6 j hj (by simpa [upd,hσ2]using hj2),fun j hj=>hown j (by simpa [upd,hσ2]using hj)⟩
 ·obtain rfl:i=a.2.1.length:=by omega
  rw[List.take_length]at ho hv
  obtain⟨wa,wc,rfl,-,-⟩:=ho.sl
  obtain⟨W,hW⟩: ∃W,W=slotsR cs V a.2.1:=⟨_,rfl⟩
  rw[←hW]at ho P hdis hK
  have b9:=R.sets (l:=[.int .i64 (predI ps a.1),.slice wa W.length wc]) rfl
  have sw:=R.stepSets (l:=[.int .i64 (predI ps a.1),.slice wa W.length wc]) rfl
  have hv9:=hv.step sw fun b hb e=>by
   have e:b=h.size+1:=e
   rcases hown b hb with h|h
   ·have:=hVlt b h;omega
   ·omega
  have hK':=hK _ _ [.int .i64 (predI ps a.1),.slice wa W.length wc] (σ 2) (st.trans sw fun j hj e=>by have e:j=h.size+1:=e;omega) (by rw[rep_pattern];exact⟨_,rfl,ho.isSl.mono sw.ge⟩) hv9 (fun j hj=>by
   rcases hown j hj with h|h
   ·exact .inl h
   ·exact .inr (by omega))
  simp(disch:=first|omega|(simp only[zz];try omega;done)) only[↓reduceIte,go_sem,rfPositive_L1,e4,e6,e8,e9,A.at,A.2.1,P.at,P.2.1,R.2.1,R.2.2.1,b9.at,b9.2.1]
  exact hK'
end Go.Proofs.YtmjinnbdnpedcaaGreat
