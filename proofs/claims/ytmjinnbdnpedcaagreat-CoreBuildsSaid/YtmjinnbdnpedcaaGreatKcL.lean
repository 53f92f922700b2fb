import Derived.Test.YtmjinnbdnpedcaaGreatCbG
import Derived.Test.YtmjinnbdnpedcaaGreatCbT
import Derived.Test.YtmjinnbdnpedcaaGreatKbP
import Derived.Test.YtmjinnbdnpedcaaGreatKcK
section Merged
namespace Edict
theorem cmpB_nil(b:List UInt8):cmpB [] b=if b=[]then 0 else -1:=by cases b<;>simp [cmpB,bytK,cmpL]
theorem cmpB_nil2(a:List UInt8):cmpB a []=if a=[]then 0 else 1:=by cases a<;>simp [cmpB,bytK,cmpL]
theorem cmpB_cons(x y:UInt8)(a b:List UInt8):cmpB (x::a) (y::b)=if(x.toNat:Int)<y.toNat then -1 else if(y.toNat:Int)<x.toNat then 1 else cmpB a b:=by
 unfold cmpB bytK;rw[List.map_cons,List.map_cons,cmpL]
theorem drop_at{l:List UInt8}{i:Nat}(h:i<l.length):l.drop i=l.getD i 0::l.drop (i+1):=by
 rw[List.drop_eq_getElem_cons h,List.getD_eq_getElem?_getD,List.getElem?_eq_getElem h];rfl
end Edict
namespace Go.Ev
open Go
theorem Blk.new{u:U}{h:H}(l:List Value)(t:TypeId):Blk (ub u h.size 0) (h.push (.cells l.toArray t)) h.size l:=
 ⟨by simp,e_hszpe rfl,e_hfrpe rfl,by simp [ub],fun i v hv=>by rw[e_hvpe rfl,List.getD_eq_getElem?_getD,hv];rfl⟩
theorem Step.own{S:Nat→Prop}{u u1 u2:U}{h h1 h2:H}(s:Step S0 u h u1 h1)(t:Step S u1 h1 u2 h2)(hn: ∀j,S j→h.size≤j):Step S0 u h u2 h2:=s.trans t (fun j hj e=>absurd (hn j e) (by omega))
theorem Blk.stepSet{u:U}{h:H}{b i:Nat}{cs:List Value}{v:Value}(B:Blk u h b cs):Step (fun j=>j=b) u h u (hset h b i v):=Step.set u h _ rfl (by rw[B.2.2.2.1];exact Nat.zero_le _)
theorem Blk.stepSets{u:U}{h:H}{b:Nat}{cs l:List Value}(B:Blk u h b cs)(hl:l.length=cs.length):Step (fun j=>j=b) u h u (hsets h b 0 l):=Step.sets u h _ rfl (by rw[B.2.2.2.1];exact Nat.le_refl _) (by rw[B.2.1,hl,Nat.zero_add];exact Nat.le_refl _)
end Go.Ev
namespace Go.Proofs.YtmjinnbdnpedcaaGreat
open Go Go.Ev Edict
variable {vs:List Value} {h:H} {K:Value→H→Prop} {KP:List PanicEntry→H→Prop}
def C_cmpB(vs:List Value)(h:H)(K:Value→H→Prop):Prop:= ∃(a b:List UInt8),vs=[str a,str b]∧a.length≤9223372036854775807∧K (.int .i64 (cmpB a b)) h
theorem r1Bytes_ok(hC:C_cmpB vs h K):HCX Tryz.prog 77 vs h K KP:=by
 obtain⟨a,b,rfl,hal,hK⟩:=hC
 refine r1Bytes_H (fun _ _ _ _ _=>False) (fun _ _ _ _ _ h=>h.elim) _ _ ?_
 simp(disch:=first|omega|(simp only[zz];try omega;done)) only[go_sem,r1Bytes_S,r1Bytes_E]
 obtain⟨I,hI⟩: ∃I:Nat→Env→H→Prop,I=fun i σ h'=>σ 0=str a∧σ 1=str b∧σ 5= .int .i64 i∧i≤a.length∧i≤b.length∧cmpB a b=cmpB (a.drop i) (b.drop i)∧h'=h:=⟨_,rfl⟩
 refine wpS_loop I (fun i=>a.length - i) 0 (by rw[hI];exact⟨by simp [upd],by simp [upd],by simp [upd],Nat.zero_le _,Nat.zero_le _,rfl,rfl⟩) ?_
 intro i σ h' hy
 rw[hI]at hy
 obtain⟨e0,e1,e5,hi,hj,heq,rfl⟩:=hy
 by_cases hla:i<a.length
 ·by_cases hlb:i<b.length
  ·rw[drop_at hla,drop_at hlb,cmpB_cons]at heq
   by_cases h1:((a.getD i 0).toNat:Int)<(b.getD i 0).toNat
   ·rw[if_pos h1]at heq
    simp(disch:=first|omega|(simp only[zz];try omega;done)) only[↓reduceIte,go_sem,r1Bytes_L1,e0,e1,e5,hla,hlb,eq_true h1]
    rw[heq]at hK;exact hK
   ·rw[if_neg h1]at heq
    by_cases h2:((b.getD i 0).toNat:Int)<(a.getD i 0).toNat
    ·rw[if_pos h2]at heq
     simp(disch:=first|omega|(simp only[zz];try omega;done)) only[↓reduceIte,go_sem,r1Bytes_L1,e0,e1,e5,hla,hlb,eq_false h1,eq_true h2]
     rw[heq]at hK;exact hK
    ·rw[if_neg h2]at heq
     simp(disch:=first|omega|(simp only[zz];try omega;done)) only[↓reduceIte,go_sem,r1Bytes_L1,e0,e1,e5,hla,hlb,eq_false h1,eq_false h2]
     refine⟨i+1,?_,by omega⟩
     rw[hI]
     exact⟨by simp [upd,e0],by simp [upd,e1],by simp [upd],hla,hlb,heq,rfl⟩
  ·obtain rfl:i=b.length:=by omega
   rw[List.drop_length,cmpB_nil2,if_neg (by intro e;have:=List.drop_eq_nil_iff.1 e;omega)]at heq
   simp(disch:=first|omega|(simp only[zz];try omega;done)) only[↓reduceIte,go_sem,r1Bytes_L1,e0,e1,e5,eq_false (show¬(a.length:Int)<b.length by omega),eq_true (show(b.length:Int)<a.length by omega)]
   rw[heq]at hK;exact hK
 ·obtain rfl:i=a.length:=by omega
  rw[List.drop_length,cmpB_nil]at heq
  by_cases hlb:a.length<b.length
  ·rw[if_neg (by intro e;have:=List.drop_eq_nil_iff.1 e;omega)]at heq
   simp(disch:=first|omega|(simp only[zz];try omega;done)) only[↓reduceIte,go_sem,r1Bytes_L1,e0,e1,e5,eq_true (show(a.length:Int)<b.length by omega)]
   rw[heq]at hK;exact hK
  ·rw[if_pos (by rw[List.drop_eq_nil_iff];omega)]at heq
   simp(disch:=first|omega|(simp only[zz];try omega;done)) only[↓reduceIte,go_sem,r1Bytes_L1,e0,e1,e5,eq_false (show¬(a.length:Int)<b.length by omega),eq_false (show¬(b.length:Int)<a.length by omega)]
   rw[heq]at hK;exact hK
def Const.enc(c:Const):List Value:=[.int .i64 c.1,.int .i64 c.2.1,str c.2.2]
def C_cmpC(vs:List Value)(h:H)(K:Value→H→Prop):Prop:= ∃(u:U) (a b:Const),vs=[.agg (Const.enc a).toArray,.agg (Const.enc b).toArray]∧a.2.2.length≤9223372036854775807∧ ∀u' h',Step S0 u h u' h'→K (.int .i64 (cmpC a b)) h'
def G_r1Compare:Ctr:=fun f vs h K _=>f=77∧C_cmpB vs h K
theorem G_r1Compare_ok:GOk Tryz.prog G_r1Compare:=by
 rintro f vs h K KP ⟨rfl,hC⟩;exact r1Bytes_ok hC
theorem r1Compare_ok(hC:C_cmpC vs h K):HCX Tryz.prog 64 vs h K KP:=by
 obtain⟨u,a,b,rfl,hal,hK⟩:=hC
 refine r1Compare_H G_r1Compare G_r1Compare_ok _ _ ?_
 have hc:=cmpC_unf a b
 have s1:=Step.push0 S0 u h #[.int .i64 a.1,.int .i64 a.2.1,str a.2.2] 60
 have s2:=Step.push0 S0 (ub u h.size 0) (h.push (.cells #[.int .i64 a.1,.int .i64 a.2.1,str a.2.2] 60)) #[.int .i64 b.1,.int .i64 b.2.1,str b.2.2] 60
 have hK:=hK _ _ (s1.trans0 s2)
 by_cases h1:a.1=b.1
 ·rw[if_neg (by simp [h1])]at hc
  by_cases h2:a.2.1=b.2.1
  ·rw[if_neg (by simp [h2])]at hc
   simp(disch:=first|omega|(simp only[zz];try omega;done)) only[↓reduceIte,go_sem,r1Compare_S,r1Compare_E,Const.enc,eq_true h1,eq_true h2]
   refine effS_call ⟨rfl,_,_,rfl,hal,by simp(disch:=first|omega|(simp only[zz];try omega;done)) only[go_sem],?_⟩
   simp(disch:=first|omega|(simp only[zz];try omega;done)) only[↓reduceIte,go_sem]
   rw[hc]at hK;exact hK
  ·rw[if_pos (by simpa using h2)]at hc
   by_cases h3:a.2.1<b.2.1
   ·rw[if_pos h3]at hc
    simp(disch:=first|omega|(simp only[zz];try omega;done)) only[↓reduceIte,go_sem,r1Compare_S,r1Compare_E,Const.enc,eq_true h1,eq_false h2,eq_true h3]
    rw[hc]at hK;exact hK
   ·rw[if_neg h3]at hc
    simp(disch:=first|omega|(simp only[zz];try omega;done)) only[↓reduceIte,go_sem,r1Compare_S,r1Compare_E,Const.enc,eq_true h1,eq_false h2,eq_false h3]
    rw[hc]at hK;exact hK
 ·rw[if_pos (by simpa using h1)]at hc
  by_cases h3:a.1<b.1
  ·rw[if_pos h3]at hc
   simp(disch:=first|omega|(simp only[zz];try omega;done)) only[↓reduceIte,go_sem,r1Compare_S,r1Compare_E,Const.enc,eq_false h1,eq_true h3]
   rw[hc]at hK;exact hK
  ·rw[if_neg h3]at hc
   simp(disch:=first|omega|(simp only[zz];try omega;done)) only[↓reduceIte,go_sem,r1Compare_S,r1Compare_E,Const.enc,eq_false h1,eq_false h3]
   rw[hc]at hK;exact hK
def C_sameC(vs:List Value)(h:H)(K:Value→H→Prop):Prop:= ∃(u:U) (a b:Const),vs=[.agg (Const.enc a).toArray,.agg (Const.enc b).toArray]∧ ∀u' h',Step S0 u h u' h'→K (.bool (decide (a=b))) h'
theorem r1Same_ok(hC:C_sameC vs h K):HCX Tryz.prog 40 vs h K KP:=by
 obtain⟨u,a,b,rfl,hK⟩:=hC
 refine r1Same_H (fun _ _ _ _ _=>False) (fun _ _ _ _ _ h=>h.elim) _ _ ?_
 have s1:=Step.push0 S0 u h #[.int .i64 a.1,.int .i64 a.2.1,str a.2.2] 60
 have s2:=Step.push0 S0 (ub u h.size 0) (h.push (.cells #[.int .i64 a.1,.int .i64 a.2.1,str a.2.2] 60)) #[.int .i64 b.1,.int .i64 b.2.1,str b.2.2] 60
 have hK:=hK _ _ (s1.trans0 s2)
 obtain⟨a1,a2,a3⟩:=a
 obtain⟨b1,b2,b3⟩:=b
 simp only[Prod.mk.injEq]at hK
 by_cases h1:a1=b1
 ·by_cases h2:a2=b2
  ·by_cases h3:a3=b3
   ·rw[decide_eq_true ⟨h1,h2,h3⟩]at hK
    simp(disch:=first|omega|(simp only[zz];try omega;done)) only[↓reduceIte,go_sem,r1Same_S,r1Same_E,Const.enc,eq_true h1,eq_true h2,eq_true h3]
    exact hK
   ·rw[decide_eq_false (fun e=>h3 e.2.2)]at hK
    simp(disch:=first|omega|(simp only[zz];try omega;done)) only[↓reduceIte,go_sem,r1Same_S,r1Same_E,Const.enc,eq_true h1,eq_true h2,eq_false h3]
    exact hK
  ·rw[decide_eq_false (fun e=>h2 e.2.1)]at hK
   simp(disch:=first|omega|(simp only[zz];try omega;done)) only[↓reduceIte,go_sem,r1Same_S,r1Same_E,Const.enc,eq_true h1,eq_false h2]
   exact hK
 ·rw[decide_eq_false (fun e=>h1 e.1)]at hK
  simp(disch:=first|omega|(simp only[zz];try omega;done)) only[↓reduceIte,go_sem,r1Same_S,r1Same_E,Const.enc,eq_false h1]
  exact hK
def C_cnst(vs:List Value)(h:H)(K:Value→H→Prop):Prop:= ∃(u:U) (t:Term),vs=[.agg (Term.enc t).toArray]∧ ∀u' h',Step S0 u h u' h'→K (.agg (Const.enc (cnst t)).toArray) h'
theorem rfConst_ok(hC:C_cnst vs h K):HCX Tryz.prog 13 vs h K KP:=by
 obtain⟨u,t,rfl,hK⟩:=hC
 obtain⟨t1,t2,t3,t4⟩:=t
 refine rfConst_H (fun _ _ _ _ _=>False) (fun _ _ _ _ _ h=>h.elim) _ ?_
 simp(disch:=first|omega|(simp only[zz];try omega;done)) only[↓reduceIte,go_sem,rfConst_S,rfConst_E,Term.enc]
 exact hK _ _ (by repeat (first|exact Step.refl _ _ _|assumption|apply Step.pushR))
def Put.enc(x:Put):List Value:=[.int .i64 x.1.1,.int .i64 x.1.2.1,str x.1.2.2.1,.int .i64 x.1.2.2.2,.int .i64 x.2.1,.int .i64 x.2.2]
theorem rep_put{u:U}{h:H}{k:Put}{cs:List Value}:Rep.rep u h k cs=(cs=Put.enc k):=by
 rw[rep_prod];simp only[rep_term,rep_prod (α:=Int) (β:=Int),rep_int,Term.enc,Put.enc];apply propext;constructor
 ·rintro ⟨_,_,rfl,rfl,_,_,rfl,rfl,rfl⟩;rfl
 ·rintro rfl;exact⟨_,_,rfl,rfl,_,_,rfl,rfl,rfl⟩
theorem sz_put:Rep.sz Put=6:=rfl
def C_before(vs:List Value)(h:H)(K:Value→H→Prop):Prop:= ∃(u:U) (a b:Put),vs=[.agg (Put.enc a).toArray,.agg (Put.enc b).toArray]∧a.1.2.2.1.length≤9223372036854775807∧ ∀u' h',Step S0 u h u' h'→K (.bool (ltP false a b)) h'
def G_rfBefore:Ctr:=fun f vs h K _=>(f=13∧C_cnst vs h K)∨(f=64∧C_cmpC vs h K)
theorem G_rfBefore_ok:GOk Tryz.prog G_rfBefore:=by
 rintro f vs h K KP (⟨rfl,hC⟩|⟨rfl,hC⟩)
 ·exact rfConst_ok hC
 ·exact r1Compare_ok hC
theorem rfBefore_ok(hC:C_before vs h K):HCX Tryz.prog 76 vs h K KP:=by
 obtain⟨u,a,b,rfl,hal,hK⟩:=hC
 refine rfBefore_H G_rfBefore G_rfBefore_ok _ _ ?_
 have s1:=Step.push0 S0 u h (Put.enc a).toArray 58
 have s2:=Step.push0 S0 (ub u h.size 0) (h.push (.cells (Put.enc a).toArray 58)) (Put.enc b).toArray 58
 have B1:=(Blk.new (u:=u) (h:=h) (Put.enc a) 58).step0 s2
 have B2:=Blk.new (u:=ub u h.size 0) (h:=h.push (.cells (Put.enc a).toArray 58)) (Put.enc b) 58
 obtain⟨u2,hu2⟩: ∃u2,u2=ub (ub u h.size 0) (h.push (.cells (Put.enc a).toArray 58)).size 0:=⟨_,rfl⟩
 rw[←hu2]at s2 B1 B2
 unfold Put.enc at s1 s2 B1 B2 ⊢
 have b1l:=B1.1
 have b2l:=B2.1
 simp only[e_psz]at B2 b2l
 simp(disch:=first|omega|(simp only[zz];try omega;done)) only[↓reduceIte,go_sem,rfBefore_S,rfBefore_E]
 refine effS_call (.inl ⟨rfl,u2,a.1,rfl,fun u3 h3 s3=> ?_⟩)
 have C1:=B1.step0 s3
 have C2:=B2.step0 s3
 have c2l:=C2.1
 refine⟨by simp(disch:=first|omega|(simp only[zz];try omega;done)) only[↓reduceIte,go_sem,C2.at,C2.2.1],?_⟩
 simp(disch:=first|omega|(simp only[zz];try omega;done)) only[↓reduceIte,go_sem]
 refine effS_call (.inl ⟨rfl,u3,b.1,rfl,fun u4 h4 s4=>⟨zz0,?_⟩⟩)
 have D1:=C1.step0 s4
 have D2:=C2.step0 s4
 simp(disch:=first|omega|(simp only[zz];try omega;done)) only[↓reduceIte,go_sem]
 refine effS_call (.inr ⟨rfl,u4,cnst a.1,cnst b.1,rfl,hal,fun u5 h5 s5=>⟨zz0,?_⟩⟩)
 have E1:=D1.step0 s5
 have E2:=D2.step0 s5
 have e1l:=E1.1
 have e2l:=E2.1
 have hK:=hK _ _ ((((s1.trans0 s2).trans0 s3).trans0 s4).trans0 s5)
 have hlt:ltP false a b=(decide (cmpC (cnst a.1) (cnst b.1)<0) || (decide (cmpC (cnst a.1) (cnst b.1)=0) && decide (a.2.2<b.2.2))):=rfl
 rw[hlt]at hK
 by_cases h1:cmpC (cnst a.1) (cnst b.1)<0
 ·rw[decide_eq_true h1,Bool.true_or]at hK
  simp(disch:=first|omega|(simp only[zz];try omega;done)) only[↓reduceIte,go_sem,eq_true h1,E1.at,E2.at]
  exact hK
 ·rw[decide_eq_false h1,Bool.false_or]at hK
  by_cases h2:cmpC (cnst a.1) (cnst b.1)=0
  ·rw[decide_eq_true h2,Bool.true_and]at hK
   by_cases h3:a.2.2<b.2.2
   ·rw[decide_eq_true h3]at hK
    simp(disch:=first|omega|(simp only[zz];try omega;done)) only[↓reduceIte,go_sem,eq_false h1,eq_true h2,eq_true h3,E1.at,E2.at,E1.2.1,E2.2.1]
    exact hK
   ·rw[decide_eq_false h3]at hK
    simp(disch:=first|omega|(simp only[zz];try omega;done)) only[↓reduceIte,go_sem,eq_false h1,eq_true h2,eq_false h3,E1.at,E2.at,E1.2.1,E2.2.1]
    exact hK
  ·rw[decide_eq_false h2,Bool.false_and]at hK
   simp(disch:=first|omega|(simp only[zz];try omega;done)) only[↓reduceIte,go_sem,eq_false h1,eq_false h2,E1.at,E2.at]
   exact hK
end Go.Proofs.YtmjinnbdnpedcaaGreat
end Merged
section Merged
namespace Go.Ev
def sF:S→S| .seq a _=>a|s=>s
def sS:S→S| .seq _ b=>b|s=>s
end Go.Ev
namespace Edict
theorem factT_len(l:List Row)(r:Row):(factT l r).length≤l.length+1:=by unfold factT;split<;>simp
end Edict
namespace Go.Proofs.YtmjinnbdnpedcaaGreat
open Go Go.Ev Edict
theorem BSt.ge{k:Nat}{u:U}{h:H}{b mp mc:Nat}{vP vC vR vF:Value}{ps:List Pred}{cs:List Const}{rs:List Rule}{fs:List Row}(B:BSt k u h b mp mc vP vC vR vF ps cs rs fs){i:Nat}(hi:BStB b mp mc vP vC vR vF i):k≤i:=by
 rcases hi with rfl|rfl|rfl|hi|hi|hi|hi
 ·exact B.kb
 ·exact B.kp
 ·exact B.kc
 ·exact B.oP.ge hi
 ·exact B.oC.ge hi
 ·exact B.oR.ge hi
 ·exact B.oF.ge hi
def G_crBuild:Ctr:=fun f vs h K _=>(f=19∧C_form vs h K)∨(f=20∧C_bound vs h K)∨(f=21∧C_begin vs h K)∨(f=22∧C_bnames vs h K)∨(f=23∧C_lits atomsL vs h K)∨
 (f=24∧C_values vs h K)∨(f=25∧C_ofC termsC vs h K)∨(f=26∧C_factB vs h K)∨(f=27∧C_rule vs h K)∨(f=28∧C_slots vs h K)
theorem G_crBuild_ok:GOk Tryz.prog G_crBuild:=by
 rintro f vs h K KP (⟨rfl,hC⟩|⟨rfl,hC⟩|⟨rfl,hC⟩|⟨rfl,hC⟩|⟨rfl,hC⟩|⟨rfl,hC⟩|⟨rfl,hC⟩|⟨rfl,hC⟩|⟨rfl,hC⟩|⟨rfl,hC⟩)
 ·exact crForm_ok hC
 ·exact crBound_ok hC
 ·exact crBegin_ok hC
 ·exact crNames_ok hC
 ·exact crAtoms_ok hC
 ·exact crValues_ok hC
 ·exact crAll_ok hC
 ·exact crFactB_ok hC
 ·exact crRule_ok hC
 ·exact crSlots_ok hC
section
variable {vs:List Value} {h:H} {K:Value→H→Prop} {KP:List PanicEntry→H→Prop}
theorem gb_form(hC:C_form vs h K):G_crBuild 19 vs h K KP:= .inl ⟨rfl,hC⟩
theorem gb_bound(hC:C_bound vs h K):G_crBuild 20 vs h K KP:= .inr (.inl ⟨rfl,hC⟩)
theorem gb_begin(hC:C_begin vs h K):G_crBuild 21 vs h K KP:= .inr (.inr (.inl ⟨rfl,hC⟩))
theorem gb_names(hC:C_bnames vs h K):G_crBuild 22 vs h K KP:= .inr (.inr (.inr (.inl ⟨rfl,hC⟩)))
theorem gb_atoms(hC:C_lits atomsL vs h K):G_crBuild 23 vs h K KP:= .inr (.inr (.inr (.inr (.inl ⟨rfl,hC⟩))))
theorem gb_values(hC:C_values vs h K):G_crBuild 24 vs h K KP:= .inr (.inr (.inr (.inr (.inr (.inl ⟨rfl,hC⟩)))))
theorem gb_all(hC:C_ofC termsC vs h K):G_crBuild 25 vs h K KP:= .inr (.inr (.inr (.inr (.inr (.inr (.inl ⟨rfl,hC⟩))))))
theorem gb_fact(hC:C_factB vs h K):G_crBuild 26 vs h K KP:= .inr (.inr (.inr (.inr (.inr (.inr (.inr (.inl ⟨rfl,hC⟩)))))))
theorem gb_rule(hC:C_rule vs h K):G_crBuild 27 vs h K KP:= .inr (.inr (.inr (.inr (.inr (.inr (.inr (.inr (.inl ⟨rfl,hC⟩))))))))
theorem gb_slots(hC:C_slots vs h K):G_crBuild 28 vs h K KP:= .inr (.inr (.inr (.inr (.inr (.inr (.inr (.inr (.inr ⟨rfl,hC⟩))))))))
end
/-! ### Build's parts -/
def bT2:S:=sS crBuild_S
def bT3:S:=sS bT2
def bT4:S:=sS bT3
def bT5:S:=sS bT4
def bT6:S:=sS bT5
def bT7:S:=sS bT6
def bT8:S:=sS bT7
def bT9:S:=sS bT8
def bT10:S:=sS bT9
def bT11:S:=sS bT10
theorem bS_cut:crBuild_S= .seq (sF crBuild_S) bT2:=rfl
theorem bT2_cut:bT2= .seq (sF bT2) bT3:=rfl
theorem bT3_cut:bT3= .seq (sF bT3) bT4:=rfl
theorem bT4_cut:bT4= .seq (sF bT4) bT5:=rfl
theorem bT5_cut:bT5= .seq (sF bT5) bT6:=rfl
theorem bT6_cut:bT6= .seq (sF bT6) bT7:=rfl
theorem bT7_cut:bT7= .seq (sF bT7) bT8:=rfl
theorem bT8_cut:bT8= .seq (sF bT8) bT9:=rfl
theorem bT9_cut:bT9= .seq (sF bT9) bT10:=rfl
theorem bT10_cut:bT10= .seq (sF bT10) bT11:=rfl
structure BCx (u0:U) (h0:H) (p:List Clause) (fs:List Atom) (la fa:Option Addr) (lc fc p2 p4 p5 b k:Nat) (σ:Env) (u:U) (h:H):Prop where
 e1:σ 1= .slice fa fs.length fc
 e2:σ 2= .pointer (some ⟨p2,0,none⟩)
 e4:σ 4= .pointer (some ⟨p4,0,none⟩)
 e5:σ 5= .pointer (some ⟨p5,0,none⟩)
 e8:σ 8= .pointer (some ⟨b,0,none⟩)
 st:Step S0 u0 h0 u h
 A:Blk u h p2 [.slice la p.length lc]
 C:Blk u h p4 [.slice none 0 0,.slice none 0 0,.slice none 0 0,.slice none 0 0]
 F:Blk u h p5 [.int .i64 0,.int .i64 0,.int .i64 0]
 lt:h0.size≤p2∧h0.size≤p4∧h0.size≤p5∧p2<k∧p4<k∧p5<k∧p2≠p4∧p2≠p5∧p4≠p5∧h0.size≤k∧k≤h.size
theorem BCx.step {u0:U} {h0:H} {p:List Clause} {fs:List Atom} {la fa:Option Addr} {lc fc p2 p4 p5 b k:Nat} {σ:Env} {u:U} {h:H} (X:BCx u0 h0 p fs la fa lc fc p2 p4 p5 b k σ u h) {S:Nat→Prop} {u':U} {h':H} (s:Step S u h u' h') (hS: ∀i,S i→k≤i) (σ':Env)
  (g1:σ' 1=σ 1) (g2:σ' 2=σ 2) (g4:σ' 4=σ 4) (g5:σ' 5=σ 5) (g8:σ' 8=σ 8):BCx u0 h0 p fs la fa lc fc p2 p4 p5 b k σ' u' h' where
 e1:=g1.trans X.e1
 e2:=g2.trans X.e2
 e4:=g4.trans X.e4
 e5:=g5.trans X.e5
 e8:=g8.trans X.e8
 st:=X.st.trans s fun i hi hs=>by have:=hS i hs;have:=X.lt;omega
 A:=X.A.step s fun hs=>by have:=hS _ hs;have:=X.lt;omega
 C:=X.C.step s fun hs=>by have:=hS _ hs;have:=X.lt;omega
 F:=X.F.step s fun hs=>by have:=hS _ hs;have:=X.lt;omega
 lt:=by have:=X.lt;have:=s.ge.sz;omega
def Kb(u0:U)(h0:H)(p:List Clause)(fs:List Atom)(K:Value→H→Prop):Prop:= ∀u' h' l,Step S0 u0 h0 u' h'→Rep.rep u' h' (buildF p fs).1 l→K (.tuple #[.agg l.toArray,fV (buildF p fs).2]) h'
theorem rep_core{u:U}{h:H}{k:Core}{v0 v1 v2 v3:Value}(h0:IsSl u h v0 k.1)(h1:IsSl u h v1 k.2.1)(h2:IsSl u h v2 k.2.2.1)(h3:IsSl u h v3 k.2.2.2):Rep.rep u h k [v0,v1,v2,v3]:=
 ⟨[v0],[v1,v2,v3],rfl,⟨_,rfl,h0⟩,[v1],[v2,v3],rfl,⟨_,rfl,h1⟩,[v2],[v3],rfl,⟨_,rfl,h2⟩,⟨_,rfl,h3⟩⟩
theorem bT11_ok {K:Value→H→Prop} {KP:List PanicEntry→H→Prop} {u0:U} {h0:H} {p:List Clause} {fs:List Atom} {la fa:Option Addr} {lc fc p2 p4 p5 b k:Nat} {σ:Env} {u:U} {h:H} {mp mc:Nat} {vP vC vR vF:Value} {ps:List Pred} {cs:List Const} {rs:List Rule} {rows:List Row}
  (X:BCx u0 h0 p fs la fa lc fc p2 p4 p5 b k σ u h) (B:BSt k u h b mp mc vP vC vR vF ps cs rs rows) (hb:buildF p fs=((ps,cs,rs,rows),0,0,0)) (hK:Kb u0 h0 p fs K):wpS G_crBuild bT11 (retQ crBuild_E (callK K KP)) σ h:=by
 obtain⟨z1,z2,z3,z4,z5,z6,z7,z8,z9⟩:=B.open
 obtain⟨pa,pc,rfl,-,-⟩:=B.oP.sl
 obtain⟨ca,cc,rfl,-,-⟩:=B.oC.sl
 obtain⟨ra,rc,rfl,-,-⟩:=B.oR.sl
 obtain⟨wa,wc,rfl,-,-⟩:=B.oF.sl
 have F:=X.F
 have C:=X.C
 have lt:=X.lt
 have hFl:=F.1
 have hCl:=C.1
 have sw1:Step (fun j=>j=p4) u h u (hsets h p4 0 [.slice pa ps.length pc,.slice ca cs.length cc,.slice ra rs.length rc,.slice wa rows.length wc]):=Step.sets u h _ rfl (by rw[C.2.2.2.1];exact Nat.le_refl _) (by rw[C.2.1];exact Nat.le_refl _)
 have F1:=F.step sw1 (fun e=>lt.2.2.2.2.2.2.2.2.1 (by have e:p5=p4:=e;exact e.symm))
 have C1:=C.sets (l:=[.slice pa ps.length pc,.slice ca cs.length cc,.slice ra rs.length rc,.slice wa rows.length wc]) rfl
 have sw2:Step (fun j=>j=p5) u (hsets h p4 0 [.slice pa ps.length pc,.slice ca cs.length cc,.slice ra rs.length rc,.slice wa rows.length wc]) u (hsets (hsets h p4 0 [.slice pa ps.length pc,.slice ca cs.length cc,.slice ra rs.length rc,.slice wa rows.length wc]) p5 0 [.int .i64 0,.int .i64 0,.int .i64 0]):=Step.sets u _ _ rfl (by rw[F1.2.2.2.1];exact Nat.le_refl _) (by rw[F1.2.1];exact Nat.le_refl _)
 have C2:=C1.step sw2 (fun e=>lt.2.2.2.2.2.2.2.2.1 (by have e:p4=p5:=e;exact e))
 have F2:=F1.sets (l:=[.int .i64 0,.int .i64 0,.int .i64 0]) rfl
 simp(disch:=first|omega|(simp only[zz];try omega;done)) only[↓reduceIte,go_sem,bT11,bT10,bT9,bT8,bT7,bT6,bT5,bT4,bT3,bT2,sS,crBuild_S,crBuild_E,X.e4,X.e5,X.e8,z1,z3,z4,z5,z6,C.2.1,C.2.2.1,F1.2.1,F1.2.2.1,C2.at,C2.2.1,F2.at,F2.2.1]
 have:=hK u _ [.slice pa ps.length pc,.slice ca cs.length cc,.slice ra rs.length rc,.slice wa rows.length wc] ((X.st.trans sw1 (fun j hj e=>by have e:j=p4:=e;omega)).trans sw2 (fun j hj e=>by have e:j=p5:=e;omega)) (by rw[hb];exact rep_core ((B.oP.isSl.mono sw1.ge).mono sw2.ge) ((B.oC.isSl.mono sw1.ge).mono sw2.ge) ((B.oR.isSl.mono sw1.ge).mono sw2.ge) ((B.oF.isSl.mono sw1.ge).mono sw2.ge))
 rw[hb]at this
 exact this
theorem bT10_ok {K:Value→H→Prop} {KP:List PanicEntry→H→Prop} {u0:U} {h0:H} {p:List Clause} {fs:List Atom} {la fa:Option Addr} {lc fc p2 p4 p5 b k:Nat} {σ:Env} {u:U} {h:H} {mp mc ms:Nat} {vP vC vR vF:Value} {ps:List Pred} {cs:List Const} {rs:List Rule} {rows:List Row}
  (X:BCx u0 h0 p fs la fa lc fc p2 p4 p5 b k σ u h) (e17:σ 17= .map (some ms)) (hlf:IsSl u0 h0 (.slice fa fs.length fc) fs) (B:BSt k u h b mp mc vP vC vR vF ps cs rs rows) (M:MapG ksK encK h ms (posL (rows.map key9)) rows.length) (hms: ¬BStB b mp mc vP vC vR vF ms) (hkm:k≤ms)
  (hps:ps.length≤1048576) (hcs:cs.length≤65536) (hrw:rows.length+fs.length≤1048576) (h8: ∀a∈fs,a.2.1.length≤8∧ ∀t∈a.2.1,Rep.wf (cnst t)) (hfl:fs.length≤4096)
  (hb:buildF p fs=((ps,cs,rs,fs.foldl (fun l a=>factT l (rowF ps cs a)) rows),0,0,0)) (hK:Kb u0 h0 p fs K):wpS G_crBuild bT10 (retQ crBuild_E (callK K KP)) σ h:=by
 rw[bT10_cut]
 simp(disch:=first|omega|(simp only[zz];try omega;done)) only[↓reduceIte,go_sem,bT10,bT9,bT8,bT7,bT6,bT5,bT4,bT3,bT2,sS,sF,crBuild_S,X.e1]
 obtain⟨I,hI⟩: ∃I:Nat→Env→H→Prop,I=fun i σ' h'=>σ' 17= .map (some ms)∧σ' 151= .slice fa fs.length fc∧σ' 152= .int .i64 fs.length∧σ' 153= .int .i64 i∧i≤fs.length∧
  ∃(u':U) (vi:Value) (ri:List Row),BCx u0 h0 p fs la fa lc fc p2 p4 p5 b k σ' u' h'∧BSt k u' h' b mp mc vP vC vR vi ps cs rs ri∧MapG ksK encK h' ms (posL (ri.map key9)) ri.length∧ ¬BStB b mp mc vP vC vR vi ms∧ri.length≤rows.length+i∧
   fs.foldl (fun l a=>factT l (rowF ps cs a)) rows=(fs.drop i).foldl (fun l a=>factT l (rowF ps cs a)) ri:=⟨_,rfl⟩
 refine wpS_loop I (fun i=>fs.length - i) 0 (by
  rw[hI]
  exact⟨by simp [upd,e17],by simp [upd],by simp [upd],by simp [upd],Nat.zero_le _,u,vF,rows,X.step (S:=S0) (.refl _ _ _) (fun _ h=>h.elim) _ (by simp [upd]) (by simp [upd]) (by simp [upd]) (by simp [upd]) (by simp [upd]),B,M,hms,Nat.le_refl _,rfl⟩) ?_
 clear B M hms X e17
 intro i σ h' hy
 rw[hI]at hy
 obtain⟨e17,e151,e152,e153,hi,u',vi,ri,X,B,M,hms,hrl,heq⟩:=hy
 by_cases hlt:i<fs.length
 ·obtain⟨x,hs⟩: ∃x,fs[i]? =some x:=⟨fs[i],by simp [hlt]⟩
  have hdr:fs.drop i=x::fs.drop (i+1):=by
   obtain⟨hi',rfl⟩:=List.getElem?_eq_some_iff.1 hs
   exact List.drop_eq_getElem_cons hi'
  rw[hdr,List.foldl_cons]at heq
  have hx:=h8 x (List.mem_of_getElem? hs)
  obtain⟨pb,po,rfl,hpb,hpu,hpz,hpr⟩:=(hlf.mono X.st.ge).row i x hs
  have hprs:=hpr
  rw[rep_atom]at hpr
  obtain⟨pv,hpr,hpv⟩:=hpr
  obtain⟨pva,pvc,rfl,r1,r2⟩:=hpv.sl
  have hcells:=hpr
  simp only[sz_atom,hvs_3,List.cons.injEq,and_true]at hpr hpu hpz
  obtain⟨p0,p1,p2'⟩:=hpr
  have sp:=Step.push0 S0 u' h' #[str x.1,.slice pva x.2.1.length pvc,.int .i64 x.2.2] 48
  rw[hcells]at hprs
  have hlt2:=X.lt
  have hfr:k≤h'.size:=X.lt.2.2.2.2.2.2.2.2.2.2
  simp(disch:=first|omega|(simp only[zz];try omega;done)) only[↓reduceIte,go_sem,crBuild_L4,X.e8,e17,e151,e152,e153,hlt,p0,p1,p2']
  refine effS_call (gb_fact ⟨k,ub u' h'.size 0,b,mp,mc,ms,vP,vC,vR,vi,_,x,ps,cs,rs,ri,rfl,Rep.mono sp.ge hprs,B.step sp (fun _ _ h=>h),M.step sp (fun h=>h),hms,hx.1,hx.2,hps,hcs,by omega,by simp only[e_psz];omega,fun u3 h3 vj s3 B3 M3 b3=>⟨zz0,?_⟩⟩)
  simp(disch:=first|omega|(simp only[zz];try omega;done)) only[↓reduceIte,go_sem,e153]
  refine⟨i+1,?_,by omega⟩
  rw[hI]
  have hfl2:=factT_len ri (rowF ps cs x)
  have X1:=X.step sp (fun _ h=>h.elim) σ rfl rfl rfl rfl rfl
  have hml:=M.lt
  refine⟨by simp [upd,e17],by simp [upd,e151],by simp [upd,e152],by simp [upd],hlt,u3,vj,_,X1.step s3 (fun j hj=>hj.elim (fun e=>by omega) (fun hj=>B.ge hj)) _ (by simp [upd]) (by simp [upd]) (by simp [upd]) (by simp [upd]) (by simp [upd]),B3,M3,?_,by omega,heq⟩
  intro hj
  rcases hj with hj|hj|hj|hj|hj|hj|hj
  ·exact hms (.inl hj)
  ·exact hms (.inr (.inl hj))
  ·exact hms (.inr (.inr (.inl hj)))
  ·exact hms (.inr (.inr (.inr (.inl hj))))
  ·exact hms (.inr (.inr (.inr (.inr (.inl hj)))))
  ·exact hms (.inr (.inr (.inr (.inr (.inr (.inl hj))))))
  ·rcases b3 _ hj with hj|hj
   ·exact hms (.inr (.inr (.inr (.inr (.inr (.inr hj))))))
   ·simp only[e_psz]at hj;omega
 ·obtain rfl:i=fs.length:=by omega
  rw[List.drop_length,List.foldl_nil]at heq
  rw[heq]at hb
  simp(disch:=first|omega|(simp only[zz];try omega;done)) only[↓reduceIte,go_sem,crBuild_L4,e152,e153]
  exact bT11_ok (X.step (S:=S0) (.refl _ _ _) (fun _ h=>h.elim) _ (by simp [upd]) (by simp [upd]) (by simp [upd]) (by simp [upd]) (by simp [upd])) B hb hK
end Go.Proofs.YtmjinnbdnpedcaaGreat
end Merged
