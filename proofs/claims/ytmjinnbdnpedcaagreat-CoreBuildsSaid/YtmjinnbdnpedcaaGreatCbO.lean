/- The reference's Build: texts of atoms (that they are there), ground, given. -/
import Derived.Test.YtmjinnbdnpedcaaGreatCbM
import Derived.Test.YtmjinnbdnpedcaaGreatWellB
import Derived.Test.YtmjinnbdnpedcaaGreatKcK
namespace Go.Ev
open Go Rep
theorem ownY_one(u:U)(h:H)(e:TypeId)(b:UInt8):OwnY h.size (ub u h.size 1) (h.push (.cells #[.int .u8 b.toNat] e)) (.slice (some ⟨h.size,0,none⟩) 1 1) [b]:=by
 refine .inr ⟨h.size,1,rfl,Nat.le_refl _,by decide,Nat.le_refl _,by simp,by rw[e_hszpe rfl];rfl,e_hfrpe rfl,by simp [ub];rfl,fun i x hx=> ?_⟩
 match i,hx with
 |0,hx=>
  cases hx
  show hvs _ _ (0*1) 1=[.int .u8 b.toNat]
  rw[hvs_1,e_hvpe rfl];rfl
 |i+1,hx=>simp at hx
theorem effS_b2sY {G:Ctr} {d:Option Nat} {st:Stab} {r:List St} {K:Env→H→Prop} {KP:List PanicEntry→H→Prop} {σ:Env} {h:H} {k:Nat} {u:U} {v:Value} {l:List UInt8} (ho:OwnY k u h v l)
  (hK:stabP st σ h h∧wpSts G r K KP (updo σ d (str l)) h):effS G .b2s d st r K KP [v] σ h:=by
 rcases ho with⟨rfl,rfl⟩|⟨b,c,rfl,h1,h2,h3,h4,h5,h6,h7,h8⟩
 ·exact hK
 ·refine⟨by rw[h5,Nat.zero_add];rw[szY];omega,l,?_,hK⟩
  apply List.ext_getElem?
  intro i
  by_cases hi:i<l.length
  ·have hx:=h8 i l[i] (by simp [hi])
   rw[szY,Nat.mul_one,hvs_1]at hx
   have hx:[Go.Ev.hv h b i]=[.int .u8 (l[i]).toNat]:=hx
   simp only[hvs,List.getElem?_map,List.getElem?_range hi,Option.map_some,Nat.zero_add]
   simp only[List.cons.injEq,and_true]at hx
   rw[hx];simp [hi,byteV]
  ·simp [hvs,List.getElem?_eq_none (show l.length≤i by omega)];omega
theorem wrap8{n:Int}(h1:0≤n)(h2:n≤255):IntKind.u8.wrap n=n:=by
 have e:n % 256=n:=Int.emod_eq_of_lt h1 (by omega)
 unfold IntKind.wrap
 simp [IntKind.bits,IntKind.signed,e]
end Go.Ev
namespace Edict
theorem tq10(m:Int): ∃d q:Int,m.tmod 10=d∧m.tdiv 10=q∧ -9≤d∧d≤9∧q.natAbs=m.natAbs / 10:=by
 by_cases h:0≤m
 ·refine⟨_,_,rfl,rfl,?_⟩
  rw[Int.tmod_eq_emod_of_nonneg h,Int.tdiv_eq_ediv_of_nonneg h]
  omega
 ·obtain⟨p,hp⟩: ∃p,p= -m:=⟨_,rfl⟩
  have hm:m= -p:=by omega
  refine⟨_,_,rfl,rfl,?_⟩
  rw[hm,Int.neg_tmod,Int.neg_tdiv,Int.tmod_eq_emod_of_nonneg (by omega),Int.tdiv_eq_ediv_of_nonneg (by omega)]
  omega
end Edict
namespace Go.Proofs.YtmjinnbdnpedcaaGreat
open Go Go.Ev Edict
variable {vs:List Value} {h:H} {K:Value→H→Prop} {KP:List PanicEntry→H→Prop}
def C_r1L(vs:List Value)(h:H)(K:Value→H→Prop):Prop:= ∃(u:U) (c:UInt8),vs=[.int .u8 c.toNat]∧ ∀u' h' s,Step S0 u h u' h'→s.length≤4→K (str s) h'
theorem r1Letter_ok(hC:C_r1L vs h K):HCX Tryz.prog 97 vs h K KP:=by
 obtain⟨u,c,rfl,hK⟩:=hC
 have hc:=c.toNat_lt
 refine r1Letter_H (fun _ _ _ _ _=>False) (fun _ _ _ _ _ h=>h.elim) _ ?_
 by_cases h1:(c.toNat:Int)=34
 ·simp(disch:=first|omega|(simp only[zz];try omega;done)) only[↓reduceIte,go_sem,r1Letter_S,r1Letter_E,eq_true h1]
  exact hK u _ _ (.refl _ _ _) (by decide)
 by_cases h2:(c.toNat:Int)=92
 ·simp(disch:=first|omega|(simp only[zz];try omega;done)) only[↓reduceIte,go_sem,r1Letter_S,r1Letter_E,eq_false h1,eq_true h2]
  exact hK u _ _ (.refl _ _ _) (by decide)
 by_cases h3:(c.toNat:Int)=10
 ·simp(disch:=first|omega|(simp only[zz];try omega;done)) only[↓reduceIte,go_sem,r1Letter_S,r1Letter_E,eq_false h1,eq_false h2,eq_true h3]
  exact hK u _ _ (.refl _ _ _) (by decide)
 by_cases h4:(c.toNat:Int)=9
 ·simp(disch:=first|omega|(simp only[zz];try omega;done)) only[↓reduceIte,go_sem,r1Letter_S,r1Letter_E,eq_false h1,eq_false h2,eq_false h3,eq_true h4]
  exact hK u _ _ (.refl _ _ _) (by decide)
 by_cases h5:(c.toNat:Int)=13
 ·simp(disch:=first|omega|(simp only[zz];try omega;done)) only[↓reduceIte,go_sem,r1Letter_S,r1Letter_E,eq_false h1,eq_false h2,eq_false h3,eq_false h4,eq_true h5]
  exact hK u _ _ (.refl _ _ _) (by decide)
 have fin1: ∀(r:List St) (Q:Env→H→Prop) (KP':List PanicEntry→H→Prop) (σ':Env),(∀h',h'=h.push (.cells #[.int .u8 c.toNat] 5)→wpSts (fun _ _ _ _ _=>False) r Q KP' (updo σ' (some 22) (str [c])) h')→effS (fun _ _ _ _ _=>False) .b2s (some 22) [] r Q KP' [.slice (some ⟨h.size,0,none⟩) 1 1] σ' (h.push (.cells #[.int .u8 c.toNat] 5)):=fun r Q KP' σ' hq=>
  effS_b2sY (ownY_one u h 5 c) ⟨by simp only[e_stab0],hq _ rfl⟩
 have fin4: ∀(x y:UInt8) (r:List St) (Q:Env→H→Prop) (KP':List PanicEntry→H→Prop) (σ':Env),(∀h',h'=h.push (.cells #[.int .u8 92,.int .u8 120,.int .u8 x.toNat,.int .u8 y.toNat] 5)→wpSts (fun _ _ _ _ _=>False) r Q KP' (updo σ' (some 30) (str [92,120,x,y])) h')→effS (fun _ _ _ _ _=>False) .b2s (some 30) [] r Q KP' [.slice (some ⟨h.size,0,none⟩) 4 4] σ' (h.push (.cells #[.int .u8 92,.int .u8 120,.int .u8 x.toNat,.int .u8 y.toNat] 5)):=fun x y r Q KP' σ' hq=>by
  have o:= @Own.made UInt8 repB8 0 u h (Nat.zero_le _) 5 [92,120,x,y] [.int .u8 92,.int .u8 120,.int .u8 x.toNat,.int .u8 y.toNat] rfl (by simp only[List.length_cons,List.length_nil];decide) (fun i z hz=>by
   match i,hz with
   |0,hz=>cases hz;rfl
   |1,hz=>cases hz;rfl
   |2,hz=>cases hz;rfl
   |3,hz=>cases hz;rfl
   |i+4,hz=>simp at hz)
  exact effS_b2sY o ⟨by simp only[e_stab0],hq _ rfl⟩
 by_cases h6:(32:Int)≤c.toNat
 ·by_cases h7:(c.toNat:Int)≤126
  ·simp(disch:=first|omega|(simp only[zz];try omega;done)) only[↓reduceIte,go_sem,r1Letter_S,r1Letter_E,eq_false h1,eq_false h2,eq_false h3,eq_false h4,eq_false h5,eq_true h6,eq_true h7]
   refine fin1 _ _ _ _ fun h' hh=> ?_
   subst hh
   simp(disch:=first|omega|(simp only[zz];try omega;done)) only[↓reduceIte,go_sem]
   exact hK _ _ _ (Step.push S0 u h _ _ 1) (by show(1:Nat)≤4;decide)
  ·have hq0:0≤(c.toNat:Int) / 16∧(c.toNat:Int) / 16<16:=by omega
   have hr0:0≤(c.toNat:Int).tmod 16∧(c.toNat:Int).tmod 16<16:=by rw[Int.tmod_eq_emod_of_nonneg (by omega)];omega
   simp(disch:=first|omega|(simp only[zz];try omega;done)) only[↓reduceIte,go_sem,r1Letter_S,r1Letter_E,eq_false h1,eq_false h2,eq_false h3,eq_false h4,eq_false h5,eq_true h6,eq_false h7,tdivN,wrap8]
   refine⟨by omega,by omega,by omega,by omega,?_⟩
   refine fin4 _ _ _ _ _ _ fun h' hh=> ?_
   subst hh
   simp(disch:=first|omega|(simp only[zz];try omega;done)) only[↓reduceIte,go_sem]
   exact hK _ _ _ (Step.push S0 u h _ _ 4) (by show(4:Nat)≤4;decide)
 ·have hq0:0≤(c.toNat:Int) / 16∧(c.toNat:Int) / 16<16:=by omega
  have hr0:0≤(c.toNat:Int).tmod 16∧(c.toNat:Int).tmod 16<16:=by rw[Int.tmod_eq_emod_of_nonneg (by omega)];omega
  simp(disch:=first|omega|(simp only[zz];try omega;done)) only[↓reduceIte,go_sem,r1Letter_S,r1Letter_E,eq_false h1,eq_false h2,eq_false h3,eq_false h4,eq_false h5,eq_false h6,tdivN,wrap8]
  refine⟨by omega,by omega,by omega,by omega,?_⟩
  refine fin4 _ _ _ _ _ _ fun h' hh=> ?_
  subst hh
  simp(disch:=first|omega|(simp only[zz];try omega;done)) only[↓reduceIte,go_sem]
  exact hK _ _ _ (Step.push S0 u h _ _ 4) (by show(4:Nat)≤4;decide)
def C_r1D(vs:List Value)(h:H)(K:Value→H→Prop):Prop:= ∃(u:U) (n:Int),vs=[.int .i64 n]∧ -9223372036854775808≤n∧n≤9223372036854775807∧ ∀u' h' s,Step S0 u h u' h'→s.length≤22→K (str s) h'
theorem r1Decimal_ok(hC:C_r1D vs h K):HCX Tryz.prog 96 vs h K KP:=by
 obtain⟨u,n,rfl,hn0,hn1,hK⟩:=hC
 refine r1Decimal_H (fun _ _ _ _ _=>False) (fun _ _ _ _ _ h=>h.elim) _ ?_
 simp(disch:=first|omega|(simp only[zz];try omega;done)) only[↓reduceIte,go_sem,r1Decimal_S,r1Decimal_E]
 obtain⟨I,hI⟩: ∃I:Nat→Env→H→Prop,I=fun k σ h'=>σ 0= .int .i64 n∧ ∃(m:Int) (s:List UInt8),σ 4= .int .i64 m∧σ 3=str s∧ -9223372036854775808≤m∧m≤9223372036854775807∧m.natAbs<10 ^ k∧s.length+k≤20∧ ∃u',Step S0 u h u' h':=⟨_,rfl⟩
 refine wpS_loop I (fun k=>k) 20 (by rw[hI];exact⟨by simp [upd],n,[],by simp [upd],by simp [upd],hn0,hn1,by have:(10:Nat) ^ 20=100000000000000000000:=rfl;omega,by decide,u,.refl _ _ _⟩) ?_
 intro k σ h' hy
 rw[hI]at hy
 obtain⟨e0,m,s,e4,e3,hm0,hm1,hmk,hsk,u',st⟩:=hy
 obtain⟨d,q,hd,hq,hd0,hd1,hqa⟩:=tq10 m
 have hq0: -9223372036854775808≤q∧q≤9223372036854775807:=by omega
 have fin: ∀e:Int,0≤e→e≤9→ ∃b:UInt8,IntKind.u8.wrap (48+e)=(b.toNat:Int):=fun e h0 h1=>⟨UInt8.ofNat (48+e).toNat,by rw[wrap8 (by omega) (by omega),ofNat_small (by omega)];omega⟩
 have tail: ∀(b:UInt8) (σ':Env) (r:List St) (Q:Env→H→Prop) (KP':List PanicEntry→H→Prop),(∀h2,Step S0 u h (ub u' h'.size 1) h2→wpSts (fun _ _ _ _ _=>False) r Q KP' (updo σ' (some 17) (str [b])) h2)→effS (fun _ _ _ _ _=>False) .b2s (some 17) [] r Q KP' [.slice (some ⟨h'.size,0,none⟩) 1 1] σ' (h'.push (.cells #[.int .u8 b.toNat] 5)):=fun b σ' r Q KP' hq'=>
  effS_b2sY (ownY_one u' h' 5 b) ⟨by simp only[e_stab0],hq' _ (st.trans0 (Step.push S0 u' h' _ _ 1))⟩
 have hk0:k=0→m=0:=fun e=>by subst e;have:(10:Nat) ^ 0=1:=rfl;omega
 have hpow: ∀j,k=j+1→q.natAbs<10 ^ j:=fun j e=>by subst e;rw[hqa];have:(10:Nat) ^ (j+1)=10 ^ j*10:=Nat.pow_succ ..;omega
 by_cases hdn:d<0
 ·obtain⟨b,hb⟩:=fin (0 - d) (by omega) (by omega)
  simp(disch:=first|omega|(simp only[zz];try omega;done)) only[↓reduceIte,go_sem,r1Decimal_L1,e4,hd,eq_true hdn,hb]
  refine tail b _ _ _ _ fun h2 s2=> ?_
  by_cases hq00:q=0
  ·by_cases hneg:n<0
   ·simp(disch:=first|omega|(simp only[zz];try omega;done)) only[↓reduceIte,go_sem,e0,e3,e4,hq,eq_true hq00,eq_true hneg]
    repeat (refine⟨by omega,?_⟩)
    exact hK _ _ _ s2 (by simp only[List.length_append,List.length_cons,List.length_nil];omega)
   ·simp(disch:=first|omega|(simp only[zz];try omega;done)) only[↓reduceIte,go_sem,e0,e3,e4,hq,eq_true hq00,eq_false hneg]
    repeat (refine⟨by omega,?_⟩)
    exact hK _ _ _ s2 (by simp only[List.length_append,List.length_cons,List.length_nil];omega)
  ·simp(disch:=first|omega|(simp only[zz];try omega;done)) only[↓reduceIte,go_sem,e3,e4,hq,eq_false hq00]
   obtain⟨j,rfl⟩: ∃j,k=j+1:=⟨k - 1,by
    have:k≠0:=fun e=>hq00 (by have:=hk0 e;omega)
    omega⟩
   refine⟨by omega,?_⟩
   refine⟨j,?_,by omega⟩
   rw[hI]
   exact⟨by simp [upd,e0],q,[b]++s,by simp [upd],by simp [upd],hq0.1,hq0.2,hpow j rfl,by simp only[List.length_append,List.length_cons,List.length_nil];omega,_,s2⟩
 ·obtain⟨b,hb⟩:=fin d (by omega) (by omega)
  simp(disch:=first|omega|(simp only[zz];try omega;done)) only[↓reduceIte,go_sem,r1Decimal_L1,e4,hd,eq_false hdn,hb]
  refine tail b _ _ _ _ fun h2 s2=> ?_
  by_cases hq00:q=0
  ·by_cases hneg:n<0
   ·simp(disch:=first|omega|(simp only[zz];try omega;done)) only[↓reduceIte,go_sem,e0,e3,e4,hq,eq_true hq00,eq_true hneg]
    repeat (refine⟨by omega,?_⟩)
    exact hK _ _ _ s2 (by simp only[List.length_append,List.length_cons,List.length_nil];omega)
   ·simp(disch:=first|omega|(simp only[zz];try omega;done)) only[↓reduceIte,go_sem,e0,e3,e4,hq,eq_true hq00,eq_false hneg]
    repeat (refine⟨by omega,?_⟩)
    exact hK _ _ _ s2 (by simp only[List.length_append,List.length_cons,List.length_nil];omega)
  ·simp(disch:=first|omega|(simp only[zz];try omega;done)) only[↓reduceIte,go_sem,e3,e4,hq,eq_false hq00]
   obtain⟨j,rfl⟩: ∃j,k=j+1:=⟨k - 1,by
    have:k≠0:=fun e=>hq00 (by have:=hk0 e;omega)
    omega⟩
   refine⟨by omega,?_⟩
   refine⟨j,?_,by omega⟩
   rw[hI]
   exact⟨by simp [upd,e0],q,[b]++s,by simp [upd],by simp [upd],hq0.1,hq0.2,hpow j rfl,by simp only[List.length_append,List.length_cons,List.length_nil];omega,_,s2⟩
def C_r1Text(vs:List Value)(h:H)(K:Value→H→Prop):Prop:= ∃(u:U) (c:Const),vs=[.agg (Const.enc c).toArray]∧Rep.wf c∧ ∀u' h' s,Step S0 u h u' h'→s.length≤1100→K (str s) h'
def G_r1Text:Ctr:=fun f vs h K _=>(f=95∧C_data (vB validB) vs h K)∨(f=96∧C_r1D vs h K)∨(f=97∧C_r1L vs h K)
theorem G_r1Text_ok:GOk Tryz.prog G_r1Text:=by
 rintro f vs h K KP (⟨rfl,hC⟩|⟨rfl,hC⟩|⟨rfl,hC⟩)
 ·exact r1Valid_ok hC
 ·exact r1Decimal_ok hC
 ·exact r1Letter_ok hC
theorem valid_len{c:Const}(h:validB c=true):c.2.2.length≤256∨c.1=1:=by
 have h1:termW (c.1,c.2.1,c.2.2,0)=0∨c.1=4:=by
  by_cases h4:c.1=4
  ·exact .inr h4
  ·left;unfold termW;rw[if_neg h4];unfold constW;rw[if_pos h]
 rcases h1 with h1|h1
 ·have h6:1+(1+(c.2.2.length+1+1))≤260:=termW_bulk h1
  refine .inl ?_
  generalize c.2.2.length=n at h6 ⊢
  omega
 ·exfalso;unfold validB at h;rw[h1]at h;simp at h
theorem r1Text_ok(hC:C_r1Text vs h K):HCX Tryz.prog 85 vs h K KP:=by
 obtain⟨u,⟨k,n,s⟩,rfl,hw,hK⟩:=hC
 refine r1Text_H G_r1Text G_r1Text_ok _ ?_
 have s1:=Step.push0 S0 u h #[.int .i64 k,.int .i64 n,str s] 60
 have B1:=Blk.new (u:=u) (h:=h) [.int .i64 k,.int .i64 n,str s] 60
 simp(disch:=first|omega|(simp only[zz];try omega;done)) only[↓reduceIte,go_sem,r1Text_S,r1Text_E,Const.enc]
 refine effS_call (.inl ⟨rfl,ub u h.size 0,(k,n,s),[.int .i64 k,.int .i64 n,str s],rfl,by rw[rep_const],hw,fun u2 h2 s2=>⟨zz0,?_⟩⟩)
 have st2:=s1.trans0 s2
 have B2:=B1.step0 s2
 have b2l:=B2.1
 cases hv:validB (k,n,s)with
 |false=>
  simp(disch:=first|omega|(simp only[zz];try omega;done)) only[↓reduceIte,go_sem,vB,hv]
  exact hK _ _ _ st2 (by simp)
 |true=>
  have hlen:=valid_len hv
  by_cases h1:k=1
  ·simp(disch:=first|omega|(simp only[zz];try omega;done)) only[↓reduceIte,go_sem,vB,hv,B2.at,B2.2.1,eq_true h1]
   refine effS_call (.inr (.inl ⟨rfl,u2,n,rfl,hw.2.1.1,hw.2.1.2,fun u3 h3 x s3 hx=>⟨zz0,?_⟩⟩))
   simp(disch:=first|omega|(simp only[zz];try omega;done)) only[↓reduceIte,go_sem]
   exact hK _ _ _ (st2.trans0 s3) (by omega)
  have hs:s.length≤256:=hlen.resolve_right h1
  by_cases h2:k=2
  ·simp(disch:=first|omega|(simp only[zz];try omega;done)) only[↓reduceIte,go_sem,vB,hv,B2.at,B2.2.1,eq_false h1,eq_true h2]
   exact hK _ _ _ st2 (by omega)
  ·simp(disch:=first|omega|(simp only[zz];try omega;done)) only[↓reduceIte,go_sem,vB,hv,B2.at,B2.2.1,eq_false h1,eq_false h2]
   obtain⟨I,hI⟩: ∃I:Nat→Env→H→Prop,I=fun i σ h'=>σ 1= .pointer (some ⟨h.size,0,none⟩)∧σ 4= .int .i64 i∧i≤s.length∧ ∃u' x,Step S0 u h u' h'∧Blk u' h' h.size [.int .i64 k,.int .i64 n,str s]∧σ 3=str x∧x.length≤1+4*i:=⟨_,rfl⟩
   refine wpS_loop I (fun i=>s.length - i) 0 (by rw[hI];exact⟨by simp [upd],by simp [upd],Nat.zero_le _,u2,[34],st2,B2,by simp [upd],by decide⟩) ?_
   intro i σ h' hy
   rw[hI]at hy
   obtain⟨e1,e4,hi,u',x,st,B,e3,hx⟩:=hy
   have bl:=B.1
   by_cases hlt:i<s.length
   ·simp(disch:=first|omega|(simp only[zz];try omega;done)) only[↓reduceIte,go_sem,r1Text_L1,e1,e4,hlt,B.at,B.2.1]
    refine effS_call (.inr (.inr ⟨rfl,u',s.getD i 0,rfl,fun u3 h3 y s3 hy=>⟨zz0,?_⟩⟩))
    simp(disch:=first|omega|(simp only[zz];try omega;done)) only[↓reduceIte,go_sem,e3,e4]
    refine⟨by omega,?_⟩
    refine⟨i+1,?_,by omega⟩
    rw[hI]
    exact⟨by simp [upd,e1],by simp [upd],hlt,u3,x++y,st.trans0 s3,B.step0 s3,by simp [upd],by rw[List.length_append];omega⟩
   ·obtain rfl:i=s.length:=by omega
    simp(disch:=first|omega|(simp only[zz];try omega;done)) only[↓reduceIte,go_sem,r1Text_L1,e1,e3,e4,B.at,B.2.1]
    refine⟨by omega,?_⟩
    exact hK _ _ _ st (by rw[List.length_append,List.length_singleton];omega)
def C_r4Term(vs:List Value)(h:H)(K:Value→H→Prop):Prop:= ∃(u:U) (t:Term),vs=[.agg (Term.enc t).toArray]∧Rep.wf t∧ ∀u' h' s,Step S0 u h u' h'→s.length≤1100→K (str s) h'
def G_r4Term:Ctr:=fun f vs h K _=>(f=83∧C_data (vI termW) vs h K)∨(f=85∧C_r1Text vs h K)
theorem G_r4Term_ok:GOk Tryz.prog G_r4Term:=by
 rintro f vs h K KP (⟨rfl,hC⟩|⟨rfl,hC⟩)
 ·exact r4term_ok hC
 ·exact r1Text_ok hC
theorem r4Term_ok(hC:C_r4Term vs h K):HCX Tryz.prog 74 vs h K KP:=by
 obtain⟨u,t,rfl,hw,hK⟩:=hC
 refine r4Term_H G_r4Term G_r4Term_ok _ ?_
 have s1:=Step.push0 S0 u h #[.int .i64 t.1,.int .i64 t.2.1,str t.2.2.1,.int .i64 t.2.2.2] 56
 have B1:=Blk.new (u:=u) (h:=h) [.int .i64 t.1,.int .i64 t.2.1,str t.2.2.1,.int .i64 t.2.2.2] 56
 simp(disch:=first|omega|(simp only[zz];try omega;done)) only[↓reduceIte,go_sem,r4Term_S,r4Term_E,Term.enc]
 refine effS_call (.inl ⟨rfl,ub u h.size 0,t,[.int .i64 t.1,.int .i64 t.2.1,str t.2.2.1,.int .i64 t.2.2.2],rfl,by rw[rep_term];rfl,hw,fun u2 h2 s2=>⟨zz0,?_⟩⟩)
 have st2:=s1.trans0 s2
 have B2:=B1.step0 s2
 have b2l:=B2.1
 by_cases hz:termW t=0
 ·have hlen:=termW_bulk hz
  have hb:Rep.bulk t=1+(1+(t.2.2.1.length+1+1)):=rfl
  by_cases h4:t.1=4
  ·simp(disch:=first|omega|(simp only[zz];try omega;done)) only[↓reduceIte,go_sem,vI,eq_true hz,B2.at,B2.2.1,eq_true h4]
   exact hK _ _ _ st2 (by omega)
  ·simp(disch:=first|omega|(simp only[zz];try omega;done)) only[↓reduceIte,go_sem,vI,eq_true hz,B2.at,B2.2.1,eq_false h4]
   refine effS_call (.inr ⟨rfl,u2,(t.1,t.2.1,t.2.2.1),rfl,⟨hw.1,hw.2.1,hw.2.2.1⟩,fun u3 h3 x s3 hx=>⟨zz0,?_⟩⟩)
   simp(disch:=first|omega|(simp only[zz];try omega;done)) only[↓reduceIte,go_sem]
   exact hK _ _ _ (st2.trans0 s3) hx
 ·simp(disch:=first|omega|(simp only[zz];try omega;done)) only[↓reduceIte,go_sem,vI,eq_false hz]
  exact hK _ _ _ st2 (by simp)
def C_listed(vs:List Value)(h:H)(K:Value→H→Prop):Prop:= ∃(u:U) (v:Value) (l:Strs),vs=[v]∧IsSl u h v l∧l.length≤8∧(∀s∈l,s.length≤1100)∧ ∀s,s.length≤10000→K (str s) h
theorem r4Listed_ok(hC:C_listed vs h K):HCX Tryz.prog 86 vs h K KP:=by
 obtain⟨u,v,l,rfl,hl,h8,hs8,hK⟩:=hC
 obtain⟨la,lc,rfl,q1,q2⟩:=hl.sl
 refine r4Listed_H (fun _ _ _ _ _=>False) (fun _ _ _ _ _ h=>h.elim) _ ?_
 simp(disch:=first|omega|(simp only[zz];try omega;done)) only[go_sem,r4Listed_S,r4Listed_E]
 obtain⟨I,hI⟩: ∃I:Nat→Env→H→Prop,I=fun i σ h'=>σ 0= .slice la l.length lc∧σ 4= .int .i64 i∧i≤l.length∧h'=h∧ ∃x,σ 3=str x∧x.length≤1102*i:=⟨_,rfl⟩
 refine wpS_loop I (fun i=>l.length - i) 0 (by rw[hI];exact⟨by simp [upd],by simp [upd],Nat.zero_le _,rfl,[],by simp [upd],by decide⟩) ?_
 intro i σ h' hy
 rw[hI]at hy
 obtain⟨e0,e4,hi,rfl,x,e3,hx⟩:=hy
 by_cases hlt:i<l.length
 ·obtain⟨s,hs⟩: ∃s,l[i]? =some s:=⟨l[i],by simp [hlt]⟩
  have hsl:=hs8 s (List.mem_of_getElem? hs)
  obtain⟨pb,po,rfl,hpb,hpu,hpz,hpr⟩:=hl.row i s hs
  simp only[rep_str,sz_str,hvs_1,List.cons.injEq,and_true]at hpr hpu hpz
  by_cases h0:0<i
  ·simp(disch:=first|omega|(simp only[zz];try omega;done)) only[↓reduceIte,go_sem,r4Listed_L1,e0,e3,e4,hlt,hpr,eq_true (show(0:Int)<i by omega)]
   refine⟨by omega,by omega,?_⟩
   refine⟨i+1,?_,by omega⟩
   rw[hI]
   exact⟨by simp [upd,e0],by simp [upd],hlt,rfl,x++[44,32]++s,by simp [upd],by simp only[List.length_append,List.length_cons,List.length_nil];omega⟩
  ·simp(disch:=first|omega|(simp only[zz];try omega;done)) only[↓reduceIte,go_sem,r4Listed_L1,e0,e3,e4,hlt,hpr,eq_false (show¬(0:Int)<i by omega)]
   refine⟨by omega,?_⟩
   refine⟨i+1,?_,by omega⟩
   rw[hI]
   exact⟨by simp [upd,e0],by simp [upd],hlt,rfl,x++s,by simp [upd],by simp only[List.length_append];omega⟩
 ·obtain rfl:i=l.length:=by omega
  simp(disch:=first|omega|(simp only[zz];try omega;done)) only[↓reduceIte,go_sem,r4Listed_L1,e0,e3,e4]
  exact hK _ (by omega)
def C_r4Appl(vs:List Value)(h:H)(K:Value→H→Prop):Prop:= ∃(u:U) (v:Value) (p:List UInt8) (l:Strs),vs=[str p,v]∧IsSl u h v l∧p≠[]∧p.length≤10000∧l.length≤8∧(∀s∈l,s.length≤1100)∧ ∀s,s≠[]→K (str s) h
def G_r4Applied:Ctr:=fun f vs h K _=>f=86∧C_listed vs h K
theorem G_r4Applied_ok:GOk Tryz.prog G_r4Applied:=by
 rintro f vs h K KP ⟨rfl,hC⟩;exact r4Listed_ok hC
theorem r4Applied_ok(hC:C_r4Appl vs h K):HCX Tryz.prog 75 vs h K KP:=by
 obtain⟨u,v,p,l,rfl,hl,hp,hpl,h8,hs8,hK⟩:=hC
 obtain⟨la,lc,rfl,q1,q2⟩:=hl.sl
 refine r4Applied_H G_r4Applied G_r4Applied_ok _ _ ?_
 by_cases h0:l.length=0
 ·simp(disch:=first|omega|(simp only[zz];try omega;done)) only[↓reduceIte,go_sem,r4Applied_S,r4Applied_E,eq_true (show(l.length:Int)=0 by omega)]
  exact hK _ hp
 ·simp(disch:=first|omega|(simp only[zz];try omega;done)) only[↓reduceIte,go_sem,r4Applied_S,r4Applied_E,eq_false (show¬(l.length:Int)=0 by omega)]
  refine⟨by omega,?_⟩
  refine effS_call ⟨rfl,u,_,l,rfl,hl,h8,hs8,fun s hs=>⟨zz0,?_⟩⟩
  simp(disch:=first|omega|(simp only[zz];try omega;done)) only[↓reduceIte,go_sem]
  repeat (refine⟨by omega,?_⟩)
  exact hK _ (by cases p with|nil=>exact absurd rfl hp|cons x y=>simp)
def C_r4Atom(vs:List Value)(h:H)(K:Value→H→Prop):Prop:= ∃(u:U) (a:Atom) (l:List Value),vs=[.agg l.toArray]∧Rep.rep u h a l∧Rep.wf a∧ ∀u' h' s,Step S0 u h u' h'→(s=[]↔atomW a≠0)→K (str s) h'
def G_r4Atom:Ctr:=fun f vs h K _=>(f=72∧C_data (vI atomW) vs h K)∨(f=74∧C_r4Term vs h K)∨(f=75∧C_r4Appl vs h K)
theorem G_r4Atom_ok:GOk Tryz.prog G_r4Atom:=by
 rintro f vs h K KP (⟨rfl,hC⟩|⟨rfl,hC⟩|⟨rfl,hC⟩)
 ·exact r4atom_ok hC
 ·exact r4Term_ok hC
 ·exact r4Applied_ok hC
theorem atom_name{a:Atom}(h:atomW a=0):a.1≠[]:=by
 intro e
 unfold atomW at h
 rw[e]at h
 have:nameB []=false:=rfl
 rw[this]at h
 simp at h
theorem r4Atom_ok(hC:C_r4Atom vs h K):HCX Tryz.prog 60 vs h K KP:=by
 obtain⟨u,a,l,rfl,ha,hw,hK⟩:=hC
 have har:=ha
 rw[rep_atom]at ha
 obtain⟨aw,rfl,haa⟩:=ha
 obtain⟨aa,ac,rfl,q3,q4⟩:=haa.sl
 have hm:=mlen'
 refine r4Atom_H G_r4Atom G_r4Atom_ok _ ?_
 have s1:=Step.push0 S0 u h #[str a.1,.slice aa a.2.1.length ac,.int .i64 a.2.2] 48
 have B1:=Blk.new (u:=u) (h:=h) [str a.1,.slice aa a.2.1.length ac,.int .i64 a.2.2] 48
 simp(disch:=first|omega|(simp only[zz];try omega;done)) only[↓reduceIte,go_sem,r4Atom_S,r4Atom_E]
 refine effS_call (.inl ⟨rfl,ub u h.size 0,a,[str a.1,.slice aa a.2.1.length ac,.int .i64 a.2.2],rfl,Rep.mono s1.ge har,hw,fun u2 h2 s2=>⟨zz0,?_⟩⟩)
 have st2:=s1.trans0 s2
 have B2:=B1.step0 s2
 have hz2:=st2.ge.sz
 by_cases hz:atomW a=0
 ·have hbk:=atomW_bulk hz
  have hb:Rep.bulk a=a.1.length+1+(bulkL a.2.1+1):=rfl
  simp(disch:=first|omega|(simp only[zz];try omega;done)) only[↓reduceIte,go_sem,vI,eq_true hz]
  obtain⟨I,hI⟩: ∃I:Nat→Env→H→Prop,I=fun i σ h'=>σ 1= .pointer (some ⟨h.size,0,none⟩)∧σ 5= .int .i64 i∧i≤a.2.1.length∧ ∃u' X,Step S0 u h u' h'∧Blk u' h' h.size [str a.1,.slice aa a.2.1.length ac,.int .i64 a.2.2]∧Own (h.size+1) u' h' (σ 4) X∧h.size+1≤h'.size∧X.length=i∧ ∀s∈(X:Strs),s.length≤1100:=⟨_,rfl⟩
  refine wpS_loop I (fun i=>a.2.1.length - i) 0 (by rw[hI];exact⟨by simp [upd],by simp [upd],Nat.zero_le _,u2,[],st2,B2,by simp only[upd];exact .nil _ _ _,by have:=B2.1;omega,rfl,fun s hs=>by simp at hs⟩) ?_
  intro i σ h' hy
  rw[hI]at hy
  obtain⟨e1,e5,hi,u',X,st,B,ho,hzz,hXl,hXs⟩:=hy
  have bl:=B.1
  by_cases hlt:i<a.2.1.length
  ·obtain⟨x,hs⟩: ∃x,a.2.1[i]? =some x:=⟨a.2.1[i],by simp [hlt]⟩
   obtain⟨pb,po,rfl,hpb,hpu,hpz,hpr⟩:=(haa.mono st.ge).row i x hs
   simp only[rep_term,Term.enc,sz_term,hvs_4,List.cons.injEq,and_true]at hpr hpu hpz
   obtain⟨p0,p1,p2,p3⟩:=hpr
   simp(disch:=first|omega|(simp only[zz];try omega;done)) only[↓reduceIte,go_sem,r4Atom_L1,e1,e5,B.at,B.2.1,hlt,p0,p1,p2,p3]
   refine effS_call (.inr (.inl ⟨rfl,u',x,rfl,hw.2.1.2 x (List.mem_of_getElem? hs),fun u3 h3 y s3 hy=>⟨zz0,?_⟩⟩))
   have ho3:=ho.step0 s3
   have hz3:=s3.ge.sz
   have hry:Rep.rep u3 h3 y [str y]:=by rw[rep_str]
   simp(disch:=first|omega|(simp only[zz];try omega;done)) only[↓reduceIte,go_sem]
   refine effS_app1 (e':=9) (cs:=[str y]) ho3 hry rfl rfl (by omega) (by omega) fun a9 n9 c9 u9 h9 o9 s9=>⟨zz0,?_⟩
   simp(disch:=first|omega|(simp only[zz];try omega;done)) only[↓reduceIte,go_sem,e5]
   refine⟨i+1,?_,by omega⟩
   rw[hI]
   refine⟨by simp [upd,e1],by simp [upd],hlt,u9,X++[y],(st.trans0 s3).own s9 fun j hj=>(by have:=ho3.ge hj;omega),(B.step0 s3).step s9 fun hj=>(by have:=ho3.ge hj;omega),by simpa [upd]using o9,by have:=s9.ge.sz;omega,by rw[List.length_append,hXl];rfl,fun s hs=> ?_⟩
   rcases List.mem_append.1 hs with hs|hs
   ·exact hXs s hs
   ·rcases List.mem_singleton.1 hs with rfl;exact hy
  ·obtain rfl:i=a.2.1.length:=by omega
   obtain⟨xa,xc,hσ4,-,-⟩:=ho.sl
   have hoi:=ho.isSl
   rw[hσ4]at hoi
   simp(disch:=first|omega|(simp only[zz];try omega;done)) only[↓reduceIte,go_sem,r4Atom_L1,e1,e5,B.at,B.2.1,hσ4]
   refine effS_call (.inr (.inr ⟨rfl,u',_,a.1,X,rfl,hoi,atom_name hz,by omega,by omega,hXs,fun s hs=>⟨zz0,?_⟩⟩))
   simp(disch:=first|omega|(simp only[zz];try omega;done)) only[↓reduceIte,go_sem]
   exact hK _ _ _ st ⟨fun e=>absurd e hs,fun e=>absurd hz e⟩
 ·simp(disch:=first|omega|(simp only[zz];try omega;done)) only[↓reduceIte,go_sem,vI,eq_false hz]
  exact hK _ _ _ st2 ⟨fun _=>hz,fun _=>rfl⟩
def C_groundR(vs:List Value)(h:H)(K:Value→H→Prop):Prop:= ∃(u:U) (a:Atom) (l:List Value),vs=[.agg l.toArray]∧Rep.rep u h a l∧Rep.wf a∧ ∀u' h',Step S0 u h u' h'→K (.bool (grB a)) h'
def G_rfGround:Ctr:=fun f vs h K _=>f=60∧C_r4Atom vs h K
theorem G_rfGround_ok:GOk Tryz.prog G_rfGround:=by
 rintro f vs h K KP ⟨rfl,hC⟩;exact r4Atom_ok hC
theorem rfGround_ok(hC:C_groundR vs h K):HCX Tryz.prog 33 vs h K KP:=by
 obtain⟨u,a,l,rfl,ha,hw,hK⟩:=hC
 have har:=ha
 rw[rep_atom]at ha
 obtain⟨aw,rfl,haa⟩:=ha
 obtain⟨aa,ac,rfl,q3,q4⟩:=haa.sl
 have hm:=mlen'
 refine rfGround_H G_rfGround G_rfGround_ok _ ?_
 have s1:=Step.push0 S0 u h #[str a.1,.slice aa a.2.1.length ac,.int .i64 a.2.2] 48
 have B1:=Blk.new (u:=u) (h:=h) [str a.1,.slice aa a.2.1.length ac,.int .i64 a.2.2] 48
 simp(disch:=first|omega|(simp only[zz];try omega;done)) only[↓reduceIte,go_sem,rfGround_S,rfGround_E]
 refine effS_call ⟨rfl,ub u h.size 0,a,[str a.1,.slice aa a.2.1.length ac,.int .i64 a.2.2],rfl,Rep.mono s1.ge har,hw,fun u2 h2 s s2 hs=>⟨zz0,?_⟩⟩
 have st2:=s1.trans0 s2
 have B2:=B1.step0 s2
 by_cases hz:atomW a=0
 ·have hne:s≠[]:=fun e=>hs.1 e hz
  have hg:grB a=a.2.1.all fun t=> !decide (t.1=4):=by unfold grB;rw[decide_eq_true hz,Bool.true_and]
  rw[hg]at hK
  simp(disch:=first|omega|(simp only[zz];try omega;done)) only[↓reduceIte,go_sem,eq_false hne]
  obtain⟨I,hI⟩: ∃I:Nat→Env→H→Prop,I=fun i σ h'=>σ 1= .pointer (some ⟨h.size,0,none⟩)∧σ 3= .int .i64 i∧i≤a.2.1.length∧h'=h2∧(a.2.1.take i).all (fun t=> !decide (t.1=4))=true:=⟨_,rfl⟩
  refine wpS_loop I (fun i=>a.2.1.length - i) 0 (by rw[hI];exact⟨by simp [upd],by simp [upd],Nat.zero_le _,rfl,rfl⟩) ?_
  intro i σ h' hy
  rw[hI]at hy
  obtain⟨e1,e3,hi,rfl,hall⟩:=hy
  have bl:=B2.1
  by_cases hlt:i<a.2.1.length
  ·obtain⟨x,hx⟩: ∃x,a.2.1[i]? =some x:=⟨a.2.1[i],by simp [hlt]⟩
   obtain⟨pb,po,rfl,hpb,hpu,hpz,hpr⟩:=(haa.mono st2.ge).row i x hx
   simp only[rep_term,Term.enc,sz_term,hvs_4,List.cons.injEq,and_true]at hpr hpu hpz
   obtain⟨p0,p1,p2,p3⟩:=hpr
   by_cases h4:x.1=4
   ·have hf:(a.2.1.all fun t=> !decide (t.1=4))=false:=by
     rw[List.all_eq_false]
     exact⟨x,List.mem_of_getElem? hx,by simp [h4]⟩
    rw[hf]at hK
    simp(disch:=first|omega|(simp only[zz];try omega;done)) only[↓reduceIte,go_sem,rfGround_L1,e1,e3,B2.at,B2.2.1,hlt,p0,eq_true h4]
    exact hK _ _ st2
   ·simp(disch:=first|omega|(simp only[zz];try omega;done)) only[↓reduceIte,go_sem,rfGround_L1,e1,e3,B2.at,B2.2.1,hlt,p0,eq_false h4]
    refine⟨i+1,?_,by omega⟩
    rw[hI]
    refine⟨by simp [upd,e1],by simp [upd],hlt,rfl,?_⟩
    rw[List.take_add_one,hx,Option.toList_some,List.all_append,hall]
    simp [h4]
  ·obtain rfl:i=a.2.1.length:=by omega
   rw[List.take_length]at hall
   rw[hall]at hK
   simp(disch:=first|omega|(simp only[zz];try omega;done)) only[↓reduceIte,go_sem,rfGround_L1,e1,e3,B2.at,B2.2.1]
   exact hK _ _ st2
 ·have he:s=[]:=hs.2 hz
  have hg:grB a=false:=by unfold grB;rw[decide_eq_false hz,Bool.false_and]
  rw[hg]at hK
  subst he
  simp(disch:=first|omega|(simp only[zz];try omega;done)) only[↓reduceIte,go_sem]
  exact hK _ _ st2
end Go.Proofs.YtmjinnbdnpedcaaGreat
