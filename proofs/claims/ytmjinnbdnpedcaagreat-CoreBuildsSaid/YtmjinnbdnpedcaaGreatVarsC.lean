import Derived.Test.YtmjinnbdnpedcaaGreatKbL
import Derived.Test.YtmjinnbdnpedcaaGreatShelfB
import Derived.Test.YtmjinnbdnpedcaaGreatKvS
import Derived.Test.YtmjinnbdnpedcaaGreatEvE
import Derived.Test.YtmjinnbdnpedcaaGreatVars
section Merged
section Merged
namespace Go.Proofs.YtmjinnbdnpedcaaGreat
open Go Go.Ev
variable {vs:List Value} {h:H} {K:Value→H→Prop} {KP:List PanicEntry→H→Prop}
abbrev Bu(k:Nat)(u:U)(h:H)(b:Nat)(l:List UInt8):Prop:=Bld 168 5 k u h b l
def C_check(vs:List Value)(h:H)(K:Value→H→Prop):Prop:= ∃(k:Nat) (u:U) (b:Nat) (l:List UInt8),vs=[.pointer (some ⟨b,0,none⟩)]∧Bu k u h b l∧
 ∀h',Step (fun i=>i=b) u h u h'→Bu k u h' b l→Go.Ev.hv h' b 1=Go.Ev.hv h b 1→K (.tuple #[]) h'
theorem sbCheck_ok(hC:C_check vs h K):HCX Tryz.prog 129 vs h K KP:=by
 obtain⟨k,u,b,l,rfl,B,hK⟩:=hC
 refine .inl ⟨by kernel_rfl,fun w hw=> ?_⟩
 subst hw
 have hlt:=B.lt
 have hB:=B
 obtain⟨p,v,hb,hp,ho,hn,hu,hk,ht⟩:=B
 rcases hp with rfl|rfl
 ·have c0:w.cell? ⟨b,0,none⟩=some (.pointer none):=by rw[cell_hc];unfold hc;rw[hb];rfl
  have sh:w.shape? b=some (168,2):=by unfold World.shape?;rw[hb];rfl
  have fz:w.frozen? ⟨b,0,none⟩=false:=Lib.frozen_of_heap hb 0
  refine(Any.Builder_copyCheck_fresh Tryz.lays240 Tryz.Builder_X72_240 b w c0 sh fz).mono ?_
  rintro e w' ⟨rfl,rfl⟩
  rw[setCell_heap]
  have sw:Step (fun i=>i=b) u w.heap u (hset w.heap b 0 (.pointer (some ⟨b,0,none⟩))):=Step.set u w.heap _ rfl (by rw[hu];exact Nat.le_refl _)
  have hget:(hset w.heap b 0 (.pointer (some ⟨b,0,none⟩)))[b]? =some (.cells #[.pointer (some ⟨b,0,none⟩),v] 168 (0,0)):=by
   rw[hset_get,if_pos rfl,hb];rfl
  refine⟨⟨rfl,rfl,rfl⟩,hK _ sw ⟨_,v,hget,.inr rfl,@Own.step UInt8 repB8 _ _ _ _ _ _ _ _ ho sw (fun i hi e=>hn (by have e:i=b:=e;rw[←e];exact hi)),hn,hu,hk,fun i hi=>by rw[hset_typ];exact ht i hi⟩ (hset_hv (.inr (by decide)))⟩
 ·have c0:w.cell? ⟨b,0,none⟩=some (.pointer (some ⟨b,0,none⟩)):=by rw[cell_hc];unfold hc;rw[hb];rfl
  refine(Any.Builder_copyCheck_used Tryz.lays240 Tryz.Builder_X72_240 b w c0).mono ?_
  rintro e w' ⟨rfl,rfl⟩
  exact⟨⟨rfl,rfl,rfl⟩,hK _ (.refl _ _ _) hB rfl⟩
def C_add(r:List UInt8→Value)(vs:List Value)(h:H)(m:List UInt8)(K:Value→H→Prop):Prop:= ∃(k:Nat) (u:U) (b:Nat) (l:List UInt8),vs.head? =some (.pointer (some ⟨b,0,none⟩))∧Bu k u h b l∧l.length+m.length≤140737488355328∧
 ∀u' h',Step (BldB h b) u h u' h'→Bu k u' h' b (l++m)→(∀i,BldB h' b i→BldB h b i∨h.size≤i)→K (r m) h'
def C_wbyte(vs:List Value)(h:H)(K:Value→H→Prop):Prop:= ∃(a:Value) (c:UInt8),vs=[a,.int .u8 c.toNat]∧C_add (fun _=> .nilIface) vs h [c] K
def C_wstr(vs:List Value)(h:H)(K:Value→H→Prop):Prop:= ∃(a:Value) (m:List UInt8),vs=[a,str m]∧C_add (fun m=> .tuple #[.int .i64 m.length,.nilIface]) vs h m K
def C_write(vs:List Value)(h:H)(K:Value→H→Prop):Prop:= ∃(k:Nat) (u:U) (b:Nat) (l m:List UInt8) (v:Value),vs=[.pointer (some ⟨b,0,none⟩),v]∧Bu k u h b l∧IsSlY u h v m∧l.length+m.length≤140737488355328∧
 ∀u' h',Step (BldB h b) u h u' h'→Bu k u' h' b (l++m)→(∀i,BldB h' b i→BldB h b i∨h.size≤i)→K (.tuple #[.int .i64 m.length,.nilIface]) h'
def G_sb:Ctr:=fun f vs h K _=>f=129∧C_check vs h K
theorem G_sb_ok:GOk Tryz.prog G_sb:=by
 rintro f vs h K KP ⟨rfl,hC⟩;exact sbCheck_ok hC
theorem sbWriteString_ok(hC:C_wstr vs h K):HCX Tryz.prog 126 vs h K KP:=by
 obtain⟨a,m,rfl,k,u,b,l,ha,B,hl,hK⟩:=hC
 obtain rfl:a= .pointer (some ⟨b,0,none⟩):=by simpa using ha
 refine sbWriteString_H G_sb G_sb_ok _ _ ?_
 simp(disch:=first|omega|(simp only[zz];try omega;done)) only[↓reduceIte,go_sem,sbWriteString_S,sbWriteString_E]
 refine effS_call ⟨rfl,k,u,b,l,rfl,B,fun h1 s1 B1 e1=>⟨zz0,?_⟩⟩
 obtain⟨z1,z2,z3,ho,hn,hty⟩:=B1.open
 have hlt:=B1.lt
 have hkl:k≤h1.size:=Nat.le_trans (B1.ge (.inl rfl)).1 (Nat.le_of_lt hlt)
 simp(disch:=first|omega|(simp only[zz];try omega;done)) only[↓reduceIte,go_sem,z1]
 refine apps_typ (own_apps (K:=fun v' h'=> ∃u',OwnY k u' h' v' (l++m)∧Step (OwnB (Go.Ev.hv h1 b 1)) u h1 u' h'∧ ∀i,OwnB v' i→OwnB (Go.Ev.hv h1 b 1) i∨h1.size≤i) ho hkl hl fun v' u' h' o' s' b'=>⟨u',o',s',b'⟩) fun v' h2 hq hT=> ?_
 obtain⟨u2,o2,s2,b2⟩:=hq
 rw[e1]at s2 b2 hT
 obtain⟨f1,f2,f3⟩:=bld_app B s1 B1 e1 o2 s2 b2 hT
 have y1:hsz h2 b=2:=by rw[(s2.ge.hs b hlt).1];exact z1
 have y2:hfr h2 b=(0,0):=by rw[(s2.ge.hs b hlt).2];exact z2
 refine⟨zz0,?_⟩
 obtain⟨a',n',c',rfl⟩: ∃a' n' c',v'= .slice a' n' c':=by
  obtain⟨x,y,hv,-⟩:= @Own.sl UInt8 repB8 _ _ _ _ _ o2
  exact⟨_,_,_,hv⟩
 simp(disch:=first|omega|(simp only[zz];try omega;done)) only[↓reduceIte,go_sem,y1,y2]
 exact hK _ _ f1 f2 f3
theorem sbWriteByte_ok(hC:C_wbyte vs h K):HCX Tryz.prog 127 vs h K KP:=by
 obtain⟨a,c,rfl,k,u,b,l,ha,B,hl,hK⟩:=hC
 obtain rfl:a= .pointer (some ⟨b,0,none⟩):=by simpa using ha
 refine sbWriteByte_H G_sb G_sb_ok _ _ ?_
 simp(disch:=first|omega|(simp only[zz];try omega;done)) only[↓reduceIte,go_sem,sbWriteByte_S,sbWriteByte_E]
 refine effS_call ⟨rfl,k,u,b,l,rfl,B,fun h1 s1 B1 e1=>⟨zz0,?_⟩⟩
 obtain⟨z1,z2,z3,ho,hn,hty⟩:=B1.open
 have hlt:=B1.lt
 have hkl:k≤h1.size:=Nat.le_trans (B1.ge (.inl rfl)).1 (Nat.le_of_lt hlt)
 have hin: ∀i,OwnB (Go.Ev.hv h1 b 1) i→i<h1.size:=fun i hi=>(B1.ge (.inr hi)).2
 simp(disch:=first|omega|(simp only[zz];try omega;done)) only[↓reduceIte,go_sem,z1]
 refine app_typ (@own_app1 UInt8 repB8 _ _ 5 _ _ _ [.int .u8 c.toNat] _ u h1 _ l c (fun v' h'=> ∃u',OwnY k u' h' v' (l++[c])∧Step (OwnB (Go.Ev.hv h1 b 1)) u h1 u' h'∧ ∀i,OwnB v' i→OwnB (Go.Ev.hv h1 b 1) i∨h1.size≤i) _ ho rfl rfl rfl hkl (by simpa using hl) fun v' u' h' o' s' b'=>⟨u',o',s',b'⟩) fun v' h2 hq hT=> ?_
 obtain⟨u2,o2,s2,b2⟩:=hq
 have hT':TypP 5 (Go.Ev.hv h1 b 1) h1 v' h2:=fun i hi=>(hT i hi).imp id fun⟨q1,q2⟩=>⟨q1,by
  rw[q2];unfold htyp;rw[Array.getElem?_push_lt (hin i q1),Array.getElem?_eq_getElem (hin i q1)]⟩
 rw[e1]at s2 b2 hT'
 obtain⟨f1,f2,f3⟩:=bld_app B s1 B1 e1 o2 s2 b2 hT'
 have y1:hsz h2 b=2:=by rw[(s2.ge.hs b hlt).1];exact z1
 have y2:hfr h2 b=(0,0):=by rw[(s2.ge.hs b hlt).2];exact z2
 refine⟨zz0,?_⟩
 obtain⟨a',n',c',rfl⟩: ∃a' n' c',v'= .slice a' n' c':=by
  obtain⟨x,y,hv,-⟩:= @Own.sl UInt8 repB8 _ _ _ _ _ o2
  exact⟨_,_,_,hv⟩
 simp(disch:=first|omega|(simp only[zz];try omega;done)) only[↓reduceIte,go_sem,y1,y2]
 exact hK _ _ f1 f2 f3
theorem sbWrite_ok(hC:C_write vs h K):HCX Tryz.prog 140 vs h K KP:=by
 obtain⟨k,u,b,l,m,v,rfl,B,hv,hl,hK⟩:=hC
 refine sbWrite_H G_sb G_sb_ok _ _ ?_
 obtain⟨va,vc,rfl,-,-⟩:= @IsSl.sl UInt8 repB8 _ _ _ _ hv
 simp(disch:=first|omega|(simp only[zz];try omega;done)) only[↓reduceIte,go_sem,sbWrite_S,sbWrite_E]
 refine effS_call ⟨rfl,k,u,b,l,rfl,B,fun h1 s1 B1 e1=>⟨zz0,?_⟩⟩
 obtain⟨z1,z2,z3,ho,hn,hty⟩:=B1.open
 have hlt:=B1.lt
 have hkl:k≤h1.size:=Nat.le_trans (B1.ge (.inl rfl)).1 (Nat.le_of_lt hlt)
 have hv1:= @IsSl.mono UInt8 repB8 _ _ _ _ _ _ s1.ge hv
 simp(disch:=first|omega|(simp only[zz];try omega;done)) only[↓reduceIte,go_sem,z1]
 refine app_typ (@own_app UInt8 repB8 _ _ _ _ _ _ u h1 _ _ l m (fun v' h'=> ∃u',OwnY k u' h' v' (l++m)∧Step (OwnB (Go.Ev.hv h1 b 1)) u h1 u' h'∧ ∀i,OwnB v' i→OwnB (Go.Ev.hv h1 b 1) i∨h1.size≤i) _ ho hv1 rfl rfl hkl (by simpa using hl) fun v' u' h' o' s' b'=>⟨u',o',s',b'⟩) fun v' h2 hq hT=> ?_
 obtain⟨u2,o2,s2,b2⟩:=hq
 rw[e1]at s2 b2 hT
 obtain⟨f1,f2,f3⟩:=bld_app B s1 B1 e1 o2 s2 b2 hT
 have y1:hsz h2 b=2:=by rw[(s2.ge.hs b hlt).1];exact z1
 have y2:hfr h2 b=(0,0):=by rw[(s2.ge.hs b hlt).2];exact z2
 refine⟨zz0,?_⟩
 obtain⟨a',n',c',rfl⟩: ∃a' n' c',v'= .slice a' n' c':=by
  obtain⟨x,y,hv,-⟩:= @Own.sl UInt8 repB8 _ _ _ _ _ o2
  exact⟨_,_,_,hv⟩
 simp(disch:=first|omega|(simp only[zz];try omega;done)) only[↓reduceIte,go_sem,y1,y2]
 exact hK _ _ f1 f2 f3
def C_bstring(vs:List Value)(h:H)(K:Value→H→Prop):Prop:= ∃(k:Nat) (u:U) (b:Nat) (l:List UInt8),vs=[.pointer (some ⟨b,0,none⟩)]∧Bu k u h b l∧l≠[]∧
 ∀h',h.size≤h'.size→(∀i,i<k→h'[i]? =h[i]?)→K (str l) h'
theorem sbString_ok(hC:C_bstring vs h K):HCX Tryz.prog 91 vs h K KP:=by
 obtain⟨k,u,b,l,rfl,B,hne,hK⟩:=hC
 refine .inl ⟨by kernel_rfl,fun w hw=> ?_⟩
 subst hw
 refine(Tryz.Builder_String k b l w B.kit hne).mono ?_
 rintro e w' ⟨rfl,hB⟩
 exact⟨⟨hB.os,hB.tape,hB.output⟩,hK _ hB.size hB.block⟩
theorem Step.below{u0 u:U}{h0 h h':H}(s:Step S0 u0 h0 u h)(hs:h.size≤h'.size)(hb: ∀i,i<h0.size→h'[i]? =h[i]?):Step S0 u0 h0 u h':=by
 have key: ∀i,i<h0.size→h'[i]? =h0[i]? ∧u i=u0 i:=fun i hi=>by
  obtain⟨q1,q2⟩:=s.same i hi (fun h=>h)
  exact⟨by rw[hb i hi,q1],q2⟩
 refine⟨⟨Nat.le_trans s.ge.sz hs,fun i hi=>by rw[(key i hi).2];exact Nat.le_refl _,fun i hi=> ?_,fun i hi o _=> ?_⟩,fun i hi _=>key i hi⟩
 ·unfold hsz hfr;rw[(key i hi).1];exact⟨rfl,rfl⟩
 ·unfold Go.Ev.hv hc;rw[(key i hi).1]
theorem Bu.new(u:U)(h:H):Bu h.size (ub u h.size 0) (h.push (.cells #[.pointer none,.slice none 0 0] 168)) h.size []:=
 ⟨_,_,by rw[Array.getElem?_push_size],.inl rfl,.inl ⟨rfl,rfl⟩,ownb_none,ub_self,Nat.le_refl _,fun i hi=>absurd hi ownb_none⟩
end Go.Proofs.YtmjinnbdnpedcaaGreat
end Merged
section Merged
namespace Go.Ev
open Go
theorem wr32u{n:Int}(h1:0≤n)(h2:n≤4294967295):IntKind.u32.wrap n=n:=by
 show n % 4294967296=n
 omega
theorem wr64u{n:Int}(h1:0≤n)(h2:n≤18446744073709551615):IntKind.u64.wrap n=n:=by
 show n % 18446744073709551616=n
 omega
theorem tmodn{a b:Int}(h:0≤a):a.tmod b=a % b:=Int.tmod_eq_emod_of_nonneg h
theorem tdivn{a b:Int}(h:0≤a):a.tdiv b=a / b:=Int.tdiv_eq_ediv_of_nonneg h
def Byt(h:H)(b n:Nat):Prop:=hsz h b=n∧hfr h b=(0,0)∧ ∀i,i<n→ ∃x:UInt8,Go.Ev.hv h b i= .int .u8 x.toNat
theorem Byt.set{h:H}{b n o:Nat}{x:UInt8}(k:Byt h b n):Byt (hset h b o (.int .u8 x.toNat)) b n:=by
 obtain⟨k1,k2,k3⟩:=k
 refine⟨by rw[hset_sz];exact k1,by rw[hset_fr];exact k2,fun i hi=> ?_⟩
 by_cases e:i=o
 ·subst e
  refine⟨x,?_⟩
  unfold Go.Ev.hv hc
  rw[hset_get,if_pos rfl]
  unfold hsz at k1
  cases hx:h[b]? with
  |none=>rw[hx]at k1;simp at k1;omega
  |some o=>
   rw[hx]at k1
   cases o with
   |cells c t f=>simp only at k1;simp [k1,hi]
   |_=>simp at k1;omega
 ·rw[hset_hv (.inr e)];exact k3 i hi
theorem Byt.setw{h:H}{b n o:Nat}{z:Int}(k:Byt h b n):Byt (hset h b o (.int .u8 (IntKind.u8.wrap z))) b n:=by
 have e:IntKind.u8.wrap z=((UInt8.ofNat (z % 256).toNat).toNat:Int):=by
  have:IntKind.u8.wrap z=z % 256:=rfl
  rw[this,UInt8.toNat_ofNat']
  omega
 rw[e];exact k.set
end Go.Ev
namespace Go.Proofs.YtmjinnbdnpedcaaGreat
open Go Go.Ev
theorem l0_len:KvS_l0.length=200:=by kernel_rfl
def C_b10(vs:List Value)(h:H)(K:Value→H→Prop):Prop:= ∃(u:U) (b o n c:Nat) (x:Int) (N:Nat),vs=[.slice (some ⟨b,o,none⟩) n c,.int .u64 x]∧0≤x∧x≤18446744073709551615∧n≤20∧Byt h b N∧o+n≤N∧u b=0∧
 ∀h',Step (fun i=>i=b) u h u h'→Byt h' b N→K (.tuple #[]) h'
set_option maxHeartbeats 1000000 in
theorem cvBase10_ok{vs:List Value}{h:H}{K:Value→H→Prop}{KP:List PanicEntry→H→Prop}(hC:C_b10 vs h K):HCX Tryz.prog 143 vs h K KP:=by
 obtain⟨u,b,o,n,c,x,N,rfl,hx0,hx1,hn,hB,hN,hu,hK⟩:=hC
 refine cvBase10_H (fun _ _ _ _ _=>False) (fun _ _ _ _ _ h=>h.elim) _ _ ?_
 simp(disch:=first|omega|(simp only[zz];try omega;done)) only[↓reduceIte,go_sem,cvBase10_S,cvBase10_E]
 obtain⟨I,hI⟩: ∃I:Nat→Env→H→Prop,I=fun m σ h'=>σ 0= .slice (some ⟨b,o,none⟩) n c∧σ 4= .int .i64 m∧m≤n∧(∃y:Int,σ 1= .int .u64 y∧0≤y∧y≤18446744073709551615)∧Step (fun i=>i=b) u h u h'∧Byt h' b N:=⟨_,rfl⟩
 refine wpS_loop I (fun m=>m) n (by rw[hI];exact⟨by simp [upd],by simp [upd],Nat.le_refl _,⟨x,by simp [upd],hx0,hx1⟩,.refl _ _ _,hB⟩) ?_
 intro m σ h' hy
 rw[hI]at hy
 obtain⟨e0,e4,hm,⟨y,e1,hy0,hy1⟩,st,hB'⟩:=hy
 have hz:=hB'.1
 have hf:=hB'.2.1
 have fin: ∀(σ':Env) (h2:H) (m':Nat) (y':Int),σ' 0= .slice (some ⟨b,o,none⟩) n c→σ' 4= .int .i64 m'→σ' 1= .int .u64 y'→0≤y'→y'≤18446744073709551615→m'<m→Step (fun i=>i=b) u h u h2→Byt h2 b N→ ∃z,I z σ' h2∧z<m:=fun σ' h2 m' y' q0 q4 q1 q2 q3 q5 q6 q7=>⟨m',by rw[hI];exact⟨q0,q4,by omega,⟨y',q1,q2,q3⟩,q6,q7⟩,q5⟩
 by_cases h8:8≤m
 ·simp(disch:=first|omega|(simp only[zz];try omega;done)) only[↓reduceIte,go_sem,cvBase10_L1,e0,e1,e4,tmodn,tdivn,wr32u,wr64u,hz,hf,l0_len]
  refine⟨fun _=> ?_,fun hn=>absurd (show(8:Int)≤m by omega) hn⟩
  repeat (refine And.intro (by omega) ?_)
  refine fin _ _ (m - 8) (y / 100000000) ?_ ?_ ?_ (by omega) (by omega) (by omega) ?_ ?_
  ·simp [upd,e0]
  ·simp [upd];omega
  ·simp [upd]
  ·repeat (refine Step.setR ?_ (.inr rfl) (by rw[hu];exact Nat.zero_le _))
   exact st
  ·repeat (refine Byt.set ?_)
   exact hB'
 ·obtain⟨w,hw⟩: ∃w,IntKind.u32.wrap y=w:=⟨_,rfl⟩
  have hw0:0≤w∧w≤4294967295:=by
   have:IntKind.u32.wrap y=y % 4294967296:=rfl
   omega
  simp(disch:=first|omega|(simp only[zz];try omega;done)) only[↓reduceIte,go_sem,cvBase10_L1,e0,e1,e4,eq_false (show¬(8:Int)≤m by omega),hw,tmodn,tdivn,wr32u,hz,hf,l0_len]
  repeat' (first|(refine And.intro (by omega) ?_)|(refine And.intro (fun _=> ?_) (fun _=> ?_)))
  all_goals (refine hK _ ?_ ?_)
  all_goals (repeat (first|refine Step.setR ?_ (.inr rfl) (by rw[hu];exact Nat.zero_le _)|with_reducible refine Byt.set ?_|with_reducible refine Byt.setw ?_))
  all_goals first|exact st|exact hB'
end Go.Proofs.YtmjinnbdnpedcaaGreat
end Merged
end Merged
section Merged
namespace Go.Proofs.YtmjinnbdnpedcaaGreat
open Go Go.Ev Edict
variable {vs:List Value} {h:H} {K:Value→H→Prop} {KP:List PanicEntry→H→Prop}
def C_number(vs:List Value)(h:H)(K:Value→H→Prop):Prop:= ∃(u:U) (b:Nat) (m:List UInt8→Option Int) (n:Nat) (s:List UInt8),vs=[.map (some b),str s]∧MapB h b m n∧n≤4611686018427387904∧
 (∀v,m s=some v→K (.tuple #[.int .i64 v,.bool false]) h)∧(m s=none→ ∀h',Step (fun i=>i=b) u h u h'→MapB h' b (putm m s n) (n+1)→K (.tuple #[.int .i64 n,.bool true]) h')
theorem crNumber_ok(hC:C_number vs h K):HCX Tryz.prog 51 vs h K KP:=by
 obtain⟨u,b,m,n,s,rfl,hm,hn,h1,h2⟩:=hC
 refine crNumber_H (fun _ _ _ _ _=>False) (fun _ _ _ _ _ h=>h.elim) _ _ ?_
 simp(disch:=first|omega|(simp only[zz];try omega;done)) only[↓reduceIte,go_sem,crNumber_S,crNumber_E]
 refine effS_look hm ⟨zz0,?_⟩
 cases hs:m s with
 |some v=>
  simp only[lookV,if_true,Option.isSome_some,Option.getD_some]
  simp(disch:=first|omega|(simp only[zz];try omega;done)) only[↓reduceIte,go_sem]
  exact h1 v hs
 |none=>
  simp only[lookV,if_true,Option.isSome_none,Option.getD_none]
  simp(disch:=first|omega|(simp only[zz];try omega;done)) only[↓reduceIte,go_sem]
  refine effS_lenm hm ⟨zz0,?_⟩
  simp(disch:=first|omega|(simp only[zz];try omega;done)) only[↓reduceIte,go_sem]
  refine effS_mput u hm fun h' st hm'=>⟨zz0,?_⟩
  rw[hs]at hm'
  simp only[Option.isSome_none,Bool.false_eq_true,if_false]at hm'
  simp(disch:=first|omega|(simp only[zz];try omega;done)) only[↓reduceIte,go_sem]
  refine effS_lenm hm' ⟨zz0,?_⟩
  simp(disch:=first|omega|(simp only[zz];try omega;done)) only[↓reduceIte,go_sem]
  have e:((n+1:Nat):Int) - 1=n:=by omega
  rw[e]
  exact h2 hs h' st hm'
def G_crVars:Ctr:=fun f vs h K _=>f=51∧C_number vs h K
theorem G_crVars_ok:GOk Tryz.prog G_crVars:=by
 rintro f vs h K KP ⟨rfl,hC⟩;exact crNumber_ok hC
def VM(h0:H)(u0 u:U)(h:H)(v:Value)(vs:Strs):Prop:= ∃m n,Step S0 u0 h0 u h∧MapB h h0.size m n∧n≤vs.length∧(∀s,(m s).isSome=true↔s∈vs)∧Own (h0.size+1) u h v vs
theorem crVars_ok(hC:C_vars vs h K):HCX Tryz.prog 56 vs h K KP:=by
 obtain⟨u,v,ls,rfl,hl,hbk,hK⟩:=hC
 obtain⟨la,lc,rfl,q1,q2⟩:=hl.sl
 have hm:=mlen'
 refine crVars_H G_crVars G_crVars_ok _ ?_
 simp(disch:=first|omega|(simp only[zz];try omega;done)) only[go_sem,crVars_S,crVars_E]
 refine effS_mkm u fun u0 h0 s0 hm0=>⟨zz0,?_⟩
 simp(disch:=first|omega|(simp only[zz];try omega;done)) only[↓reduceIte,go_sem]
 obtain⟨I,hI⟩: ∃I:Nat→Env→H→Prop,I=fun i σ h'=>σ 4= .map (some h.size)∧σ 12= .slice la ls.length lc∧σ 13= .int .i64 ls.length∧σ 14= .int .i64 i∧i≤ls.length∧ ∃u',VM h u u' h' (σ 3) (varsF (ls.take i)):=⟨_,rfl⟩
 refine wpS_loop I (fun i=>ls.length - i) 0 (by
  rw[hI]
  exact⟨by simp [upd],by simp [upd],by simp [upd],by simp [upd],Nat.zero_le _,u0,_,0,s0,hm0,Nat.zero_le _,fun s=>by simp [varsF],by simp only[upd];exact .nil _ _ _⟩) ?_
 intro i σ h' hy
 rw[hI]at hy
 obtain⟨e4,e12,e13,e14,hi,u',hvm⟩:=hy
 by_cases hlt:i<ls.length
 ·obtain⟨x,hs⟩: ∃x,ls[i]? =some x:=⟨ls[i],by simp [hlt]⟩
  obtain⟨m,n,st,hmb,hn,hms,ho⟩:=hvm
  obtain⟨pb,po,rfl,hpb,hpu,hpz,hpr⟩:=(hl.mono st.ge).row i x hs
  rw[rep_literal]at hpr
  obtain⟨pv,hpr,hpv⟩:=hpr
  obtain⟨pva,pvc,rfl,r1,r2⟩:=hpv.sl
  simp only[Term.enc,sz_literal,hvs_14,List.cons_append,List.nil_append,List.cons.injEq,and_true]at hpr hpu hpz
  obtain⟨p0,p1,p2,p3,p4,p5,p6,p7,p8,p9,p10,p11,p12,p13⟩:=hpr
  by_cases hk:x.1=1
  ·simp(disch:=first|omega|(simp only[zz];try omega;done)) only[↓reduceIte,go_sem,crVars_L1,e12,e13,e14,hlt,p0,p1,p2,p3,p4,p5,p6,p7,p8,p9,p10,p11,p12,p13,eq_true hk]
   have sp:Step S0 u' h' _ _:=Step.push0 S0 u' h' #[.int .i64 x.1,str x.2.1.1,.slice pva x.2.1.2.1.length pvc,.int .i64 x.2.1.2.2,.int .i64 x.2.2.1,.int .i64 x.2.2.2.1.1,.int .i64 x.2.2.2.1.2.1,str x.2.2.2.1.2.2.1,.int .i64 x.2.2.2.1.2.2.2,.int .i64 x.2.2.2.2.1.1,.int .i64 x.2.2.2.2.1.2.1,str x.2.2.2.2.1.2.2.1,.int .i64 x.2.2.2.2.1.2.2.2,.int .i64 x.2.2.2.2.2] 119
   obtain⟨J,hJ⟩: ∃J:Nat→Env→H→Prop,J=fun j σ h'=>σ 4= .map (some h.size)∧σ 12= .slice (some ⟨pb,po,none⟩) ls.length lc∧σ 13= .int .i64 ls.length∧σ 14= .int .i64 i∧σ 23= .slice pva x.2.1.2.1.length pvc∧σ 24= .int .i64 x.2.1.2.1.length∧σ 25= .int .i64 j∧j≤x.2.1.2.1.length∧
     ∃u',IsSl u' h' (.slice pva x.2.1.2.1.length pvc) x.2.1.2.1∧VM h u u' h' (σ 3) ((x.2.1.2.1.take j).foldl varT (varsF (ls.take i))):=⟨_,rfl⟩
   refine wpS_loop J (fun j=>x.2.1.2.1.length - j) 0 (by
    rw[hJ]
    exact⟨by simp [upd,e4],by simp [upd,e12],by simp [upd,e13],by simp [upd,e14],by simp [upd],by simp [upd],by simp [upd],Nat.zero_le _,_,hpv.mono sp.ge,m,n,st.trans0 sp,hmb.step sp (fun h=>h),hn,hms,by simpa [upd]using ho.step0 sp⟩) ?_
   clear ho st hmb hn hms hpv p0 p1 p2 p3 p4 p5 p6 p7 p8 p9 p10 p11 p12 p13 hpz hpu hpb e4 e12 e13 e14 sp
   intro j σ1 h1 hy
   rw[hJ]at hy
   obtain⟨e4,e12,e13,e14,e23,e24,e25,hj,u1,hpv,m,n,st,hmb,hn,hms,ho⟩:=hy
   have hln:=inner_len (j:=j) hs
   by_cases hlt2:j<x.2.1.2.1.length
   ·obtain⟨t,hts⟩: ∃t,x.2.1.2.1[j]? =some t:=⟨x.2.1.2.1[j],by simp [hlt2]⟩
    obtain⟨tb,to,rfl,htb,htu,htz,htr⟩:=hpv.row j t hts
    rw[rep_term]at htr
    simp only[Term.enc,sz_term,hvs_4,List.cons.injEq,and_true]at htr htu htz
    obtain⟨t0,t1,t2,t3⟩:=htr
    have hsn:=fold_snoc (f:=varT) (b:=varsF (ls.take i)) hts
    obtain⟨vs0,hvs0⟩: ∃vs0,vs0=(x.2.1.2.1.take j).foldl varT (varsF (ls.take i)):=⟨_,rfl⟩
    rw[←hvs0]at hsn hln ho hn hms
    have hml:=hmb.lt
    have next: ∀(σ':Env) (u':U) (h':H) (S:Nat→Prop) (m':List UInt8→Option Int) (n':Nat),σ' 4=σ1 4→σ' 12=σ1 12→σ' 13=σ1 13→σ' 14=σ1 14→σ' 23=σ1 23→σ' 24=σ1 24→σ' 25= .int .i64 ((j:Int)+1)→Step S u1 h1 u' h'→(∀i,S i→h.size≤i)→
      MapB h' h.size m' n'→n'≤(varT vs0 t).length→(∀s,(m' s).isSome=true↔s∈varT vs0 t)→Own (h.size+1) u' h' (σ' 3) (varT vs0 t)→ ∃y,J y σ' h'∧x.2.1.2.1.length - y<x.2.1.2.1.length - j:=fun σ' u' h' S m' n' g4 g12 g13 g14 g23 g24 g25 sx hS hm' hn' hms' ho'=>by
     refine⟨j+1,?_,by omega⟩
     rw[hJ]
     refine⟨by rw[g4,e4],by rw[g12,e12],by rw[g13,e13],by rw[g14,e14],by rw[g23,e23],by rw[g24,e24],g25,hlt2,u',hpv.mono sx.ge,m',n',st.trans sx (fun b hb hB=>by have:=hS b hB;omega),hm',by rw[hsn];exact hn',by rw[hsn];exact hms',by rw[hsn];exact ho'⟩
    have sp:=Step.push0 S0 u1 h1 #[.int .i64 t.1,.int .i64 t.2.1,str t.2.2.1,.int .i64 t.2.2.2] 56
    by_cases hk4:t.1=4
    ·simp(disch:=first|omega|(simp only[zz];try omega;done)) only[↓reduceIte,go_sem,crVars_L2,e4,e23,e24,e25,hlt2,t0,t1,t2,t3,eq_true hk4]
     have bT:Blk (ub u1 h1.size 0) (h1.push (.cells #[.int .i64 t.1,.int .i64 t.2.1,str t.2.2.1,.int .i64 t.2.2.2] 56)) h1.size [.int .i64 t.1,.int .i64 t.2.1,str t.2.2.1,.int .i64 t.2.2.2]:=(Blk.mk (by simp only[e_psz];omega) (by simp(disch:=first|omega|(simp only[zz];try omega;done)) only[go_sem]) (by simp(disch:=first|omega|(simp only[zz];try omega;done)) only[go_sem]) (by repeat (first|(refine ub_at ?_;simp only[];done)|apply ub_zero)) (by simp(disch:=first|omega|(simp only[zz];try omega;done)) only[go_sem]))
     have hos:=ho.step0 sp
     have hmp:=hmb.step sp (fun h=>h)
     refine effS_call ⟨rfl,ub u1 h1.size 0,h.size,m,n,t.2.2.1,rfl,hmp,by omega,fun v hv=>⟨zz0,?_⟩,fun hv h2 s2 hm2=>⟨zz0,?_⟩⟩
     ·have hin:t.2.2.1∈vs0:=(hms _).1 (by rw[hv];rfl)
      by_cases h95:t.2.2.1=[95]
      ·have hvt:varT vs0 t=vs0++[t.2.2.1]:=by unfold varT;rw[if_pos ⟨hk4,.inl h95⟩]
       simp(disch:=first|omega|(simp only[zz];try omega;done)) only[↓reduceIte,go_sem,bT.at,bT.2.1,eq_true h95]
       refine effS_app1p (by simp only[e_psz]) hos (x:=t.2.2.1) (by rw[rep_str]) rfl rfl (by simp only[e_psz];omega) (by omega) fun a' n' c' u3 h3 ho3 s3=>⟨zz0,?_⟩
       have hne: ∀b,OwnB (σ1 3) b→h.size+1≤b:=fun b hb=>hos.ge hb
       simp(disch:=first|omega|(simp only[zz];try omega;done)) only[↓reduceIte,go_sem,e25]
       refine next _ u3 h3 (OwnB (σ1 3)) m n (by simp [upd]) (by simp [upd]) (by simp [upd]) (by simp [upd]) (by simp [upd]) (by simp [upd]) (by simp [upd]) ((sp.mono (fun _ _ h=>h.elim)).trans s3 (fun _ _ h=>h)) (fun b hB=>by have:=hne b hB;omega) (hmp.step s3 (fun hB=>by have:=hne _ hB;omega)) (by rw[hvt];simp;omega) (fun s=> ?_) (by rw[hvt];simpa [upd]using ho3)
       rw[hms,hvt,List.mem_append,List.mem_singleton]
       exact⟨.inl,fun h=>h.elim id (fun h=>h▸hin)⟩
      ·have hvt:varT vs0 t=vs0:=by
        unfold varT;rw[if_neg];rintro ⟨-,h|h⟩
        ·exact h95 h
        ·exact h hin
       simp(disch:=first|omega|(simp only[zz];try omega;done)) only[↓reduceIte,go_sem,e25,bT.at,bT.2.1,eq_false h95]
       exact next _ _ _ S0 m n (by simp [upd]) (by simp [upd]) (by simp [upd]) (by simp [upd]) (by simp [upd]) (by simp [upd]) (by simp [upd]) sp (fun _ h=>h.elim) hmp (by rw[hvt];exact hn) (by rw[hvt];exact hms) (by rw[hvt];simpa [upd]using hos)
     ·have hin:t.2.2.1 ∉ vs0:=fun h=>by have:=(hms _).2 h;rw[hv]at this;cases this
      have hvt:varT vs0 t=vs0++[t.2.2.1]:=by unfold varT;rw[if_pos ⟨hk4,.inr hin⟩]
      have bT2:=bT.step s2 (by omega)
      have hos2:=hos.step s2 (fun b hB e=>by have:=hos.ge hB;omega)
      have hl2:h.size+1≤h2.size:=by have:=s2.ge.sz;simp only[e_psz]at this;omega
      simp(disch:=first|omega|(simp only[zz];try omega;done)) only[↓reduceIte,go_sem,bT2.at,bT2.2.1]
      refine effS_app1 hos2 (x:=t.2.2.1) (by rw[rep_str]) rfl rfl hl2 (by omega) fun a' n' c' u3 h3 ho3 s3=>⟨zz0,?_⟩
      have hne: ∀b,OwnB (σ1 3) b→h.size+1≤b:=fun b hb=>hos2.ge hb
      simp(disch:=first|omega|(simp only[zz];try omega;done)) only[↓reduceIte,go_sem,e25]
      have sall:Step (fun b=>h.size≤b) u1 h1 u3 h3:=((sp.mono (S':=fun b=>h.size≤b) (fun _ _ h=>h.elim)).trans s2 (fun b _ e=>by omega)).trans s3 (fun b _ hB=>by have:=hne b hB;omega)
      refine next _ u3 h3 (fun b=>h.size≤b) (putm m t.2.2.1 n) (n+1) (by simp [upd]) (by simp [upd]) (by simp [upd]) (by simp [upd]) (by simp [upd]) (by simp [upd]) (by simp [upd]) sall (fun b h=>h) (hm2.step s3 (fun hB=>by have:=hne _ hB;omega)) (by rw[hvt];simp;omega) (fun s=> ?_) (by rw[hvt];simpa [upd]using ho3)
      rw[hvt,List.mem_append,List.mem_singleton]
      unfold putm
      by_cases hst:s=t.2.2.1
      ·rw[if_pos hst];exact⟨fun _=> .inr hst,fun _=>rfl⟩
      ·rw[if_neg hst,hms];exact⟨.inl,fun h=>h.elim id (fun h=>absurd h hst)⟩
    ·have hvt:varT vs0 t=vs0:=by unfold varT;rw[if_neg (fun h=>hk4 h.1)]
     simp(disch:=first|omega|(simp only[zz];try omega;done)) only[↓reduceIte,go_sem,crVars_L2,e23,e24,e25,hlt2,t0,t1,t2,t3,eq_false hk4]
     exact next _ _ _ S0 m n (by simp [upd]) (by simp [upd]) (by simp [upd]) (by simp [upd]) (by simp [upd]) (by simp [upd]) (by simp [upd]) sp (fun _ h=>h.elim) (hmb.step sp (fun h=>h)) (by rw[hvt];exact hn) (by rw[hvt];exact hms) (by rw[hvt];simpa [upd]using ho.step0 sp)
   ·obtain rfl:j=x.2.1.2.1.length:=by omega
    rw[List.take_length]at ho hn hms
    simp(disch:=first|omega|(simp only[zz];try omega;done)) only[↓reduceIte,go_sem,crVars_L2,e14,e24,e25]
    have e:varsF (ls.take (i+1))=x.2.1.2.1.foldl varT (varsF (ls.take i)):=by unfold varsF;rw[fold_snoc hs];unfold varL;rw[if_pos hk]
    refine⟨i+1,?_,by omega⟩
    rw[hI]
    exact⟨by simp [upd,e4],by simp [upd,e12],by simp [upd,e13],by simp [upd],hlt,u1,m,n,st,hmb,by rw[e];exact hn,by rw[e];exact hms,by rw[e];simpa [upd]using ho⟩
  ·simp(disch:=first|omega|(simp only[zz];try omega;done)) only[↓reduceIte,go_sem,crVars_L1,e12,e13,e14,hlt,p0,p1,p2,p3,p4,p5,p6,p7,p8,p9,p10,p11,p12,p13,eq_false hk]
   have e:varsF (ls.take (i+1))=varsF (ls.take i):=by unfold varsF;rw[fold_snoc hs];unfold varL;rw[if_neg hk]
   have sp:=Step.push0 S0 u' h' #[.int .i64 x.1,str x.2.1.1,.slice pva x.2.1.2.1.length pvc,.int .i64 x.2.1.2.2,.int .i64 x.2.2.1,.int .i64 x.2.2.2.1.1,.int .i64 x.2.2.2.1.2.1,str x.2.2.2.1.2.2.1,.int .i64 x.2.2.2.1.2.2.2,.int .i64 x.2.2.2.2.1.1,.int .i64 x.2.2.2.2.1.2.1,str x.2.2.2.2.1.2.2.1,.int .i64 x.2.2.2.2.1.2.2.2,.int .i64 x.2.2.2.2.2] 119
   refine⟨i+1,?_,by omega⟩
   rw[hI]
   exact⟨by simp [upd,e4],by simp [upd,e12],by simp [upd,e13],by simp [upd],hlt,_,m,n,st.trans0 sp,hmb.step sp (fun h=>h),by rw[e];exact hn,by rw[e];exact hms,by rw[e];simpa [upd]using ho.step0 sp⟩
 ·obtain rfl:i=ls.length:=by omega
  obtain⟨m,n,st,hmb,hn,hms,ho⟩:=hvm
  rw[List.take_length]at ho
  simp(disch:=first|omega|(simp only[zz];try omega;done)) only[↓reduceIte,go_sem,crVars_L1,e13,e14]
  exact hK _ _ _ st ho.isSl
end Go.Proofs.YtmjinnbdnpedcaaGreat
end Merged
