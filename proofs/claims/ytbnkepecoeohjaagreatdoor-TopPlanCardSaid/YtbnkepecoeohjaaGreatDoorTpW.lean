/- A part of the proof. -/
import Derived.Test.YtbnkepecoeohjaaGreatDoorLexS
import Derived.Test.YtbnkepecoeohjaaGreatDoorTq6
import Derived.WalkKit
set_option linter.all false
set_option maxRecDepth 100000
set_option maxHeartbeats 4000000
namespace Edict
def lW(x:ll):List Go.Value:=[.int .i64 x.1,.int .i64 x.2.1,Go.Ev.str x.2.2.1,.int .i64 x.2.2.2]
def vM(f:nI):Go.Value:= .agg #[.int .i64 f.1,.int .i64 0,.int .i64 f.2]
end Edict
namespace Go.Proofs.Z
open Go Go.Ev Edict
variable {bad:nI} {L:List Tok} {u':U} {h':H} {i:Nat} {sl:Value} {u:U} {rb:Nat} {t:Tok} {r:List Tok}
variable {vs:List Value} {h:H} {K:Value->H->Prop} {KP:List PanicEntry->H->Prop}
def gu(f:nI):List PanicEntry:=[{v:= .iface 209 (vM f),recovered:=false}]
def yU(u:U)(h:H)(rb:Nat)(sl:Value)(L:List Tok)(bad:nI)(i:Nat):Prop:=
 kV u h rb [sl,.int .i64 i,.int .i64 bad.1,.int .i64 0,.int .i64 bad.2]/\i<=L.length/\kM u h sl L/\L.length<=65537
theorem yU.step{S:Nat->Prop}{h:H}(k:yU u h rb sl L bad i)(s:kG S u h u' h')(hn: ¬S rb):yU u' h' rb sl L bad i:=
 ⟨k.1.step s hn,k.2.1,k.2.2.1.mono s.ge,k.2.2.2⟩
theorem yU.sZ{h:H}(k:yU u h rb sl L bad i)(s:kG S0 u h u' h'):yU u' h' rb sl L bad i:=k.step s (λh=>h)
theorem mI(h:L.drop i=t::r):i<L.length/\L[i]? =some t/\L.drop (i+1)=r:=by
 have h1:L[i]? =some t:=by
  have:=bL (·[0]?) h
  simpa using this
 refine⟨(aJ.1 h1).1,h1,?_⟩
 rw[<-dZ,h];rfl
theorem Qe(h:L.drop i=[]):L.length<=i:=by simpa using h
theorem uK(h:L.drop i=t::r)(q:L.drop i=[]):False:=by rw[h]at q;cases q
theorem sj{t':Tok}{r':List Tok}(h:L.drop i=t::r)(q:L.drop i=t'::r'):t=t'/\r=r':=by rw[h]at q;cases q;exact⟨rfl,rfl⟩
def su(vs:List Value)(h:H)(K:Value->H->Prop)(KP:List PanicEntry->H->Prop):Prop:= ∃(u:U) (rb:Nat) (sl:Value) (L:List Tok) (bad:nI) (i:Nat),vs=[.pointer (some ⟨rb,0,none⟩)]/\yU u h rb sl L bad i/\
 ∀u' h',kG S0 u h u' h'->(L.drop i=[]->KP (gu bad) h')/\ ∀t r,L.drop i=t::r->K (.agg (lK t).toArray) h'
theorem qp(hC:su vs h K KP):ma Tryz.prog 83 vs h K KP:=by
 obtain⟨u,rb,sl,L,bad,i,rfl,⟨hB,hi,hL,hLl⟩,hK⟩:=hC
 obtain⟨a,c,rfl,q1,q2⟩:=hL.sl
 refine kP 4101 [((some (.c1 (.ldn 6) (.t 2))),(.o1 (.ldn 6) (.t 2)))] (G:=(λ_ _ _ _ _=>False)) (λ_ _ _ _ _ h=>h.elim) Tryz.func83 (by kernel_rfl) (by apply c0 rfl;repeat' first|apply cS|apply cK|apply cL|apply cX|(apply cC (by decide))|(conv=>lhs;cbv;try simp only[mF])) ?_
 have s1:=kG.qZ S0 u h #[.int .i64 0,str [],.int .i64 0,.int .i64 0,.int .i64 0,.int .i64 0] 177
 have B1:=kV.new (u:=u) (h:=h) [.int .i64 0,str [],.int .i64 0,.int .i64 0,.int .i64 0,.int .i64 0] 177
 have hB':=hB.sZ s1
 have hL':=hL.mono s1.ge
 obtain⟨h1,hh1⟩:=kJ (h.push (.cells #[.int .i64 0,str [],.int .i64 0,.int .i64 0,.int .i64 0,.int .i64 0] 177))
 obtain⟨u1,hu1⟩:=kJ (ub u h.size 0)
 have B1':kV u1 h1 h.size [.int .i64 0,str [],.int .i64 0,.int .i64 0,.int .i64 0,.int .i64 0]:=by rw[hu1,hh1];exact B1
 rw[<-hh1,<-hu1]at s1 hB' hL'
 have hB1:=hB'.1
 have hBb:=B1'.1
 cases hd:L.drop i with
 |nil=>
  have hge:=Qe hd
  simp(disch:=first|omega|simp only[zz];try omega;done) only[↓reduceIte,go_sem,<-hh1,hB'.at,hB'.2.1,af (show((L.length:Nat):Int)<=(i:Nat) by omega)]
  exact(hK _ _ s1).1 hd
 |cons t r=>
  obtain⟨hlt,hget,hd'⟩:=mI hd
  obtain⟨pb,po,rfl,hpb,hpu,hpz,hpr⟩:=hL'.row i t hget
  rw[mJ]at hpr
  simp only[lK,Bi,El,aG,aP]at hpr hpu hpz
  obtain⟨p0,p1,p2,p3,p4,p5⟩:=hpr
  have w1:=B1'.sets (l:=[.int .i64 t.1,str t.2.1,.int .i64 t.2.2.1,.int .i64 t.2.2.2.1,.int .i64 t.2.2.2.2.1,.int .i64 t.2.2.2.2.2]) rfl
  have s2:=s1.rZ (b:=h.size) (o:=0) (l:=[.int .i64 t.1,str t.2.1,.int .i64 t.2.2.1,.int .i64 t.2.2.2.1,.int .i64 t.2.2.2.2.1,.int .i64 t.2.2.2.2.2]) (.inl (aH _)) (by rw[B1'.2.2.2.1];exact az _) (by rw[B1'.2.1];exact aH _)
  have hK':=(hK _ _ s2).2 t r hd
  simp only[lK]at hK'
  simp(disch:=first|omega|simp only[zz];try omega;done) only[↓reduceIte,go_sem,<-hh1,hB'.at,hB'.2.1,au (show¬((L.length:Nat):Int)<=(i:Nat) by omega),af (show(i:Int)<(L.length:Nat) by omega),p0,p1,p2,p3,p4,p5,B1'.2.1,B1'.2.2.1,w1.at,w1.2.1]
  exact hK'
def zR(vs:List Value)(h:H)(KP:List PanicEntry->H->Prop):Prop:= ∃(u:U) (rb:Nat) (sl:Value) (L:List Tok) (bad:nI) (i:Nat) (e:Int),vs=[.pointer (some ⟨rb,0,none⟩),.int .i64 e]/\yU u h rb sl L bad i/\
 ∀u' h',kG S0 u h u' h'->(L.drop i=[]->KP (gu bad) h')/\ ∀t r,L.drop i=t::r->KP (gu (vT e t)) h'
def aht:mG:=λf vs h K KP=>f=83/\su vs h K KP
theorem aaZ:nz Tryz.prog aht:=by
 rintro f vs h K KP ⟨rfl,hC⟩;exact qp hC
theorem wX(hC:zR vs h KP):ma Tryz.prog 84 vs h K KP:=by
 obtain⟨u,rb,sl,L,bad,i,e,rfl,hR,hK⟩:=hC
 refine kP 3 [] aaZ Tryz.func84 (by kernel_rfl) (by conv=>lhs;cbv;try simp only[mF]) ?_
 simp(disch:=first|omega|simp only[zz];try omega;done) only[↓reduceIte,go_sem]
 refine kD ⟨rfl,u,rb,sl,L,bad,i,rfl,hR,λu' h' s=>⟨λhd=>(hK _ _ s).1 hd,λt r hd=>⟨kY,?_⟩⟩⟩
 have:=(hK _ _ s).2 t r hd
 simp only[gu,vM,vT,tO]at this
 simp only[lK]
 simp(disch:=first|omega|simp only[zz];try omega;done) only[↓reduceIte,go_sem,Vs]
 exact this
def vw(vs:List Value)(h:H)(KP:List PanicEntry->H->Prop):Prop:= ∃(u:U) (rb:Nat) (sl:Value) (L:List Tok) (bad:nI) (i:Nat),vs=[.pointer (some ⟨rb,0,none⟩)]/\yU u h rb sl L bad i/\
 ∀u' h',kG S0 u h u' h'->(L.drop i=[]->KP (gu bad) h')/\ ∀t r,L.drop i=t::r->KP (gu (lF t)) h'
def ahu:mG:=λf vs h K KP=>(f=83/\su vs h K KP)\/(f=84/\zR vs h KP)
theorem aa0:nz Tryz.prog ahu:=by
 rintro f vs h K KP (⟨rfl,hC⟩|⟨rfl,hC⟩)
 ·exact qp hC
 ·exact wX hC
theorem um(hC:vw vs h KP):ma Tryz.prog 110 vs h K KP:=by
 obtain⟨u,rb,sl,L,bad,i,rfl,hR,hK⟩:=hC
 refine kP 33 [] aa0 Tryz.func110 (by kernel_rfl) (by conv=>lhs;cbv;try simp only[mF]) ?_
 simp(disch:=first|omega|simp only[zz];try omega;done) only[↓reduceIte,go_sem]
 refine kD (.inl ⟨rfl,u,rb,sl,L,bad,i,rfl,hR,λu' h' s=>⟨λhd=>(hK _ _ s).1 hd,λt r hd=>⟨kY,?_⟩⟩⟩)
 have hR':=hR.sZ s
 simp only[lK]
 have key: ∀u2 h2,kG S0 u' h' u2 h2->KP (gu (lF t)) h2:=λu2 h2 s2=>(hK _ _ (s.tZ s2)).2 t r hd
 by_cases h0:t.1=0
 ·have e:lF t=vT 21 t:=by unfold lF tK vT;rw[ay h0]
  rw[e]at key
  simp(disch:=first|omega|simp only[zz];try omega;done) only[↓reduceIte,go_sem,h0]
  exact kD (.inr ⟨rfl,u',rb,sl,L,bad,i,21,rfl,hR',λu2 h2 s2=>⟨λq=>(uK hd q).elim,λt' r' hd'=>(by obtain⟨rfl,rfl⟩:=sj hd hd';exact key _ _ s2)⟩⟩)
 ·have e:lF t=vT 20 t:=by unfold lF tK vT;rw[ah h0]
  rw[e]at key
  simp(disch:=first|omega|simp only[zz];try omega;done) only[↓reduceIte,go_sem,h0]
  exact kD (.inr ⟨rfl,u',rb,sl,L,bad,i,20,rfl,hR',λu2 h2 s2=>⟨λq=>(uK hd q).elim,λt' r' hd'=>(by obtain⟨rfl,rfl⟩:=sj hd hd';exact key _ _ s2)⟩⟩)
def zS(vs:List Value)(h:H)(K:Value->H->Prop):Prop:= ∃(k:Int) (b:Bool),vs=[.int .i64 k,.bool b]/\K (.bool (pO k b)) h
theorem yV(hC:zS vs h K):ma Tryz.prog 115 vs h K KP:=by
 obtain⟨k,b,rfl,hK⟩:=hC
 refine kP 1139 [(none,(.t 4))] (G:=(λ_ _ _ _ _=>False)) (λ_ _ _ _ _ h=>h.elim) Tryz.func115 (by kernel_rfl) (by conv=>lhs;cbv;try simp only[mF]) ?_
 unfold pO at hK
 by_cases h1:k=1
 ·subst h1
  simp at hK
  simp(disch:=first|omega|simp only[zz];try omega;done) only[↓reduceIte,go_sem]
  exact hK
 by_cases h3:k=3
 ·subst h3
  simp at hK
  simp(disch:=first|omega|simp only[zz];try omega;done) only[↓reduceIte,go_sem]
  exact hK
 by_cases h4:k=4
 ·subst h4
  simp at hK
  simp(disch:=first|omega|simp only[zz];try omega;done) only[↓reduceIte,go_sem]
  exact hK
 by_cases h2:k=2
 ·subst h2
  simp at hK
  simp(disch:=first|omega|simp only[zz];try omega;done) only[↓reduceIte,go_sem]
  exact hK
 rw[decide_eq_false h1,decide_eq_false h3,decide_eq_false h4,decide_eq_false h2]at hK
 simp(disch:=first|omega|simp only[zz];try omega;done) only[↓reduceIte,go_sem,h1,h2,h3,h4]
 exact hK
theorem kZ(u:U)(h:H)(zs cs:List Value)(T:TypeId)(hl:cs.length=zs.length): ∃h3 h4 u4,h3=h.push (.cells zs.toArray T)/\h4=kU h3 h.size 0 cs/\kV u4 h3 h.size zs/\kV u4 h4 h.size cs/\kG S0 u h u4 h4/\h4.size=h.size+1:=by
 have B:=kV.new (u:=u) (h:=h) zs T
 have s:=(kG.qZ S0 u h zs.toArray T).rZ (b:=h.size) (o:=0) (l:=cs) (.inl (aH _)) (by rw[B.2.2.2.1];exact az _) (by rw[B.2.1,hl];omega)
 exact⟨_,_,_,rfl,rfl,B,B.sets hl,s,by rw[mX];simp⟩
theorem yU.adv{h:H}(k:yU u h rb sl L bad i)(hi:i<L.length):
  ∃h',h'=lh h rb 1 (.int .i64 ((i:Int)+1))/\kG (λb=>b=rb) u h u h'/\yU u h' rb sl L bad (i+1):=by
 obtain⟨hB,-,hL,hl⟩:=k
 have s:=kG.set (S:=λb=>b=rb) u h (b:=rb) (o:=1) (.int .i64 ((i:Int)+1)) rfl (by rw[hB.2.2.2.1];exact az _)
 exact⟨_,rfl,s,hB.set (i:=1) (v:= .int .i64 ((i:Int)+1)) (by simp),hi,hL.mono s.ge,hl⟩
def FH(vs:List Value)(h:H)(K:Value->H->Prop)(KP:List PanicEntry->H->Prop):Prop:= ∃(u:U) (rb:Nat) (sl:Value) (L:List Tok) (bad:nI) (i:Nat) (k:Int),vs=[.pointer (some ⟨rb,0,none⟩),.int .i64 k]/\yU u h rb sl L bad i/\
 (∀u' h',kG S0 u h u' h'->L.drop i=[]->KP (gu bad) h')/\(∀u' h' t r,kG S0 u h u' h'->L.drop i=t::r->tK t≠k->KP (gu (lF t)) h')/\
 (∀u' h' t r,kG S0 u h u' h'->L.drop i=t::r->tK t=k->k=0->K (.agg (lK t).toArray) h')/\
 (∀u' h' t r,kG (λb=>b=rb) u h u' h'->L.drop i=t::r->tK t=k->k≠0->yU u' h' rb sl L bad (i+1)->K (.agg (lK t).toArray) h')
def ahv:mG:=λf vs h K KP=>(f=83/\su vs h K KP)\/(f=110/\vw vs h KP)
theorem aa1:nz Tryz.prog ahv:=by
 rintro f vs h K KP (⟨rfl,hC⟩|⟨rfl,hC⟩)
 ·exact qp hC
 ·exact um hC
theorem Dv(hC:FH vs h K KP):ma Tryz.prog 93 vs h K KP:=by
 obtain⟨u,rb,sl,L,bad,i,k,rfl,hR,hK1,hK2,hK3,hK4⟩:=hC
 refine kP 34867 [((some (.c1 (.ldn 6) (.t 4))),(.o1 (.ldn 6) (.t 4)))] aa1 Tryz.func93 (by kernel_rfl) (by conv=>lhs;cbv;try simp only[mF]) ?_
 have s1:=kG.qZ S0 u h #[.int .i64 0,str [],.int .i64 0,.int .i64 0,.int .i64 0,.int .i64 0] 177
 have B1:=kV.new (u:=u) (h:=h) [.int .i64 0,str [],.int .i64 0,.int .i64 0,.int .i64 0,.int .i64 0] 177
 obtain⟨h1,hh1⟩:=kJ (h.push (.cells #[.int .i64 0,str [],.int .i64 0,.int .i64 0,.int .i64 0,.int .i64 0] 177))
 obtain⟨u1,hu1⟩:=kJ (ub u h.size 0)
 have B1':kV u1 h1 h.size [.int .i64 0,str [],.int .i64 0,.int .i64 0,.int .i64 0,.int .i64 0]:=by rw[hu1,hh1];exact B1
 rw[<-hh1,<-hu1]at s1
 clear B1
 have hR1:=hR.sZ s1
 have hrb:rb<h.size:=hR.1.1
 simp(disch:=first|omega|simp only[zz];try omega;done) only[↓reduceIte,go_sem,<-hh1]
 refine kD (.inl ⟨rfl,u1,rb,sl,L,bad,i,rfl,hR1,λu2 h2 s2=>⟨λhd=>hK1 _ _ (s1.tZ s2) hd,λt r hd=>⟨kY,?_⟩⟩⟩)
 obtain⟨hlt,hget,hd'⟩:=mI hd
 obtain⟨h3,h4,u4,hh3,hh4,B3,B4,s4,hz4⟩:=kZ u2 h2 [.int .i64 0,str [],.int .i64 0,.int .i64 0,.int .i64 0,.int .i64 0] (lK t) 177 rfl
 have hb1:h.size<h2.size:=bM B1'.1 s2.ge.sz
 have st4:=(s1.tZ s2).tZ s4
 have B14:=(B1'.sZ s2).sZ s4
 have hR4:=(hR1.sZ s2).sZ s4
 simp only[lK]at hh4 B4 ⊢
 have B31:=B3.1
 have B41:=B4.1
 have hRb:=hR4.1.1
 have hLl:=hR.2.2.2
 have hkey:decide (t.1=k)=decide (tK t=k):=rfl
 by_cases hk:tK t=k
 case neg=>
  have hk': ¬t.1=k:=hk
  simp(disch:=first|omega|simp only[zz];try omega;done) only[↓reduceIte,go_sem,<-hh3,<-hh4,B3.2.1,B3.2.2.1,B4.at,B4.2.1,hk']
  exact kD (.inr ⟨rfl,u4,rb,sl,L,bad,i,rfl,hR4,λu5 h5 s5=>⟨λq=>(uK hd q).elim,λt' r' hd'=>(by obtain⟨rfl,rfl⟩:=sj hd hd';exact hK2 _ _ _ _ (st4.tZ s5) hd hk)⟩⟩)
 have hk':t.1=k:=hk
 by_cases hk0:k=0
 ·have w:=B14.sets (l:=[.int .i64 t.1,str t.2.1,.int .i64 t.2.2.1,.int .i64 t.2.2.2.1,.int .i64 t.2.2.2.2.1,.int .i64 t.2.2.2.2.2]) rfl
  have s6:=st4.rZ (b:=h.size) (o:=0) (l:=[.int .i64 t.1,str t.2.1,.int .i64 t.2.2.1,.int .i64 t.2.2.2.1,.int .i64 t.2.2.2.2.1,.int .i64 t.2.2.2.2.2]) (.inl (aH _)) (by rw[B14.2.2.2.1];exact az _) (by rw[B14.2.1];exact aH _)
  have hK':=hK3 _ _ _ _ s6 hd hk hk0
  simp only[lK]at hK'
  subst hk0
  simp(disch:=first|omega|simp only[zz];try omega;done) only[↓reduceIte,go_sem,<-hh3,<-hh4,B3.2.1,B3.2.2.1,B4.at,B4.2.1,af hk',B14.2.1,B14.2.2.1,w.at,w.2.1]
  exact hK'
 ·obtain⟨h5,hh5,s5,hR5⟩:=hR4.adv hlt
  have hne1:h.size≠rb:=by omega
  have hne2:h2.size≠rb:=by omega
  have B15:=B14.step s5 hne1
  have B45:=B4.step s5 hne2
  have w:=B15.sets (l:=[.int .i64 t.1,str t.2.1,.int .i64 t.2.2.1,.int .i64 t.2.2.2.1,.int .i64 t.2.2.2.2.1,.int .i64 t.2.2.2.2.2]) rfl
  have st5:kG (λb=>b=rb) u h u4 h5:=(st4.mono (λ_ _ q=>q.elim)).trans s5 (λb _ q=>q)
  have s6:=st5.rZ (b:=h.size) (o:=0) (l:=[.int .i64 t.1,str t.2.1,.int .i64 t.2.2.1,.int .i64 t.2.2.2.1,.int .i64 t.2.2.2.2.1,.int .i64 t.2.2.2.2.2]) (.inl (aH _)) (by rw[B15.2.2.2.1];exact az _) (by rw[B15.2.1];exact aH _)
  have s56:=kG.sets (S:=λb=>b=h.size) u4 h5 (b:=h.size) (o:=0) [.int .i64 t.1,str t.2.1,.int .i64 t.2.2.1,.int .i64 t.2.2.2.1,.int .i64 t.2.2.2.2.1,.int .i64 t.2.2.2.2.2] rfl (by rw[B15.2.2.2.1];exact az _) (by rw[B15.2.1];exact aH _)
  have hK':=hK4 _ _ _ _ s6 hd hk hk0 (hR5.step s56 (λq=>hne1 q.symm))
  simp only[lK]at hK'
  have hRB:=hR4.1
  simp(disch:=first|omega|simp only[zz];try omega;done) only[↓reduceIte,go_sem,<-hh3,<-hh4,B3.2.1,B3.2.2.1,B4.at,B4.2.1,af hk',au hk0,hRB.at,hRB.2.1,hRB.2.2.1,<-hh5,B45.at,B45.2.1,B15.2.1,B15.2.2.1,w.at,w.2.1]
  exact hK'
def ML(vs:List Value)(h:H)(K:Value->H->Prop)(KP:List PanicEntry->H->Prop):Prop:= ∃(u:U) (rb:Nat) (sl:Value) (L:List Tok) (bad:nI) (i:Nat) (v:Bool),vs=[.pointer (some ⟨rb,0,none⟩),.bool v]/\yU u h rb sl L bad i/\
 (∀u' h',kG S0 u h u' h'->L.drop i=[]->KP (gu bad) h')/\(∀u' h' t r,kG S0 u h u' h'->L.drop i=t::r->pO (tK t) v=false->KP (gu (lF t)) h')/\
 (∀u' h' t r,kG (λb=>b=rb) u h u' h'->L.drop i=t::r->pO (tK t) v=true->yU u' h' rb sl L bad (i+1)->K (.agg (lW (lN t)).toArray) h')
def ahw:mG:=λf vs h K KP=>(f=83/\su vs h K KP)\/(f=110/\vw vs h KP)\/(f=115/\zS vs h K)
theorem aa2:nz Tryz.prog ahw:=by
 rintro f vs h K KP (⟨rfl,hC⟩|⟨rfl,hC⟩|⟨rfl,hC⟩)
 ·exact qp hC
 ·exact um hC
 ·exact yV hC
theorem Ky(hC:ML vs h K KP):ma Tryz.prog 116 vs h K KP:=by
 obtain⟨u,rb,sl,L,bad,i,v,rfl,hR,hK1,hK2,hK3⟩:=hC
 refine kP 1238561202291 [((some (.c1 (.ldn 4) (.t 4))),(.o1 (.ldn 4) (.t 4)))] aa2 Tryz.func116 (by kernel_rfl) (by conv=>lhs;cbv;try simp only[mF]) ?_
 have s1:=kG.qZ S0 u h #[.int .i64 0,.int .i64 0,str [],.int .i64 0] 98
 have B1:=kV.new (u:=u) (h:=h) [.int .i64 0,.int .i64 0,str [],.int .i64 0] 98
 obtain⟨h1,hh1⟩:=kJ (h.push (.cells #[.int .i64 0,.int .i64 0,str [],.int .i64 0] 98))
 obtain⟨u1,hu1⟩:=kJ (ub u h.size 0)
 have B1':kV u1 h1 h.size [.int .i64 0,.int .i64 0,str [],.int .i64 0]:=by rw[hu1,hh1];exact B1
 rw[<-hh1,<-hu1]at s1
 clear B1
 have hR1:=hR.sZ s1
 have hrb:rb<h.size:=hR.1.1
 simp(disch:=first|omega|simp only[zz];try omega;done) only[↓reduceIte,go_sem,<-hh1]
 refine kD (.inl ⟨rfl,u1,rb,sl,L,bad,i,rfl,hR1,λu2 h2 s2=>⟨λhd=>hK1 _ _ (s1.tZ s2) hd,λt r hd=>⟨kY,?_⟩⟩⟩)
 obtain⟨hlt,hget,hd'⟩:=mI hd
 obtain⟨h3,h4,u4,hh3,hh4,B3,B4,s4,hz4⟩:=kZ u2 h2 [.int .i64 0,str [],.int .i64 0,.int .i64 0,.int .i64 0,.int .i64 0] (lK t) 177 rfl
 have hb1:h.size<h2.size:=bM B1'.1 s2.ge.sz
 have st4:=(s1.tZ s2).tZ s4
 have B14:=(B1'.sZ s2).sZ s4
 have hR4:=(hR1.sZ s2).sZ s4
 simp only[lK]at hh4 B4 ⊢
 have B31:=B3.1
 have B41:=B4.1
 have hRb:=hR4.1.1
 have hLl:=hR.2.2.2
 simp(disch:=first|omega|simp only[zz];try omega;done) only[↓reduceIte,go_sem,<-hh3,<-hh4,B3.2.1,B3.2.2.1,B4.at,B4.2.1]
 refine kD (.inr (.inr ⟨rfl,t.1,v,rfl,⟨kY,?_⟩⟩))
 cases hT:pO t.1 v with
 |false=>
  simp(disch:=first|omega|simp only[zz];try omega;done) only[↓reduceIte,go_sem,Vs]
  exact kD (.inr (.inl ⟨rfl,u4,rb,sl,L,bad,i,rfl,hR4,λu5 h5 s5=>⟨λq=>(uK hd q).elim,λt' r' hd'=>(by obtain⟨rfl,rfl⟩:=sj hd hd';exact hK2 _ _ _ _ (st4.tZ s5) hd hT)⟩⟩))
 |true=>
 obtain⟨h5,hh5,s5,hR5⟩:=hR4.adv hlt
 have hne1:h.size≠rb:=by omega
 have hne2:h2.size≠rb:=by omega
 have B15:=B14.step s5 hne1
 have B45:=B4.step s5 hne2
 have st5:kG (λb=>b=rb) u h u4 h5:=(st4.mono (λ_ _ q=>q.elim)).trans s5 (λb _ q=>q)
 have hRB:=hR4.1
 have hz5:h2.size<h5.size:=B45.1
 have hrb5:=hR5.1.1
 obtain⟨h6,h7,u7,hh6,hh7,B66,B67,s7,hz7⟩:=kZ u4 h5 [.int .i64 0,.int .i64 0,str [],.int .i64 0] [.int .i64 4,.int .i64 0,str t.2.1,.int .i64 t.2.2.2.2.1] 98 rfl
 have B57:=B45.sZ s7
 have B17:=B15.sZ s7
 have hR7:=hR5.sZ s7
 have st7:=st5.tZ s7
 have B671:=B67.1
 have B571:=B57.1
 have B661:=B66.1
 simp(disch:=first|omega|simp only[zz];try omega;done) only[↓reduceIte,go_sem,hRB.at,hRB.2.1,hRB.2.2.1,<-hh5,B45.at,B45.2.1,<-hh6,<-hh7,B66.2.1,B66.2.2.1,B57.at,B57.2.1]
 by_cases k3:t.1=3
 ·have hTD:lN t=(1,tI t,[],tO t):=by unfold lN tK;simp [k3]
  have s70:=kG.refl (λb=>b=h5.size) u7 h7
  have B6k30:=B67.set (i:=0) (v:= .int .i64 1) (by simp)
  have s7k30:=s70.setR (b:=h5.size) (o:=0) (v:= .int .i64 1) (.inr rfl) (by rw[B67.2.2.2.1];exact az _)
  have B6k31:=B6k30.set (i:=1) (v:= .int .i64 t.2.2.1) (by simp)
  have s7k31:=s7k30.setR (b:=h5.size) (o:=1) (v:= .int .i64 t.2.2.1) (.inr rfl) (by rw[B67.2.2.2.1];exact az _)
  have B6k32:=B6k31.set (i:=2) (v:=str []) (by simp)
  have s7k32:=s7k31.setR (b:=h5.size) (o:=2) (v:=str []) (.inr rfl) (by rw[B67.2.2.2.1];exact az _)
  obtain⟨h9,hh9⟩:=kJ (lh (lh (lh h7 h5.size 0 (.int .i64 1)) h5.size 1 (.int .i64 t.2.2.1)) h5.size 2 (str []))
  rw[<-hh9]at B6k32 s7k32
  simp only[cZ,bP]at B6k32
  have B69:=B6k32
  have B19:=B17.step s7k32 (by omega)
  have hR9:=hR7.step s7k32 (by omega)
  have st9:=st7.trans s7k32 (λb hb q=>by omega)
  have B57k:=B57.step s7k30 (by omega)
  have w:=B19.sets (l:=[.int .i64 1,.int .i64 t.2.2.1,str [],.int .i64 t.2.2.2.2.1]) rfl
  have s10:=st9.rZ (b:=h.size) (o:=0) (l:=[.int .i64 1,.int .i64 t.2.2.1,str [],.int .i64 t.2.2.2.2.1]) (.inl (aH _)) (by rw[B19.2.2.2.1];exact az _) (by rw[B19.2.1];exact aH _)
  have s91:=kG.sets (S:=λb=>b=h.size) u7 h9 (b:=h.size) (o:=0) [.int .i64 1,.int .i64 t.2.2.1,str [],.int .i64 t.2.2.2.2.1] rfl (by rw[B19.2.2.2.1];exact az _) (by rw[B19.2.1];exact aH _)
  have hK':=hK3 _ _ _ _ s10 hd hT (hR9.step s91 (λq=>hne1 q.symm))
  simp only[hTD,lW]at hK'
  have B691:=B69.1
  have B191:=B19.1
  simp(disch:=first|omega|simp only[zz];try omega;done) only[↓reduceIte,go_sem,<-hh9,B57k.at,af k3,B67.at,B67.2.1,B67.2.2.1,B69.at,B17.2.1,B17.2.2.1,w.at,w.2.1]
  exact hK'
 by_cases k1:t.1=1
 ·have hTD:lN t=(2,0,tX t,tO t):=by unfold lN tK;simp [k1]
  have s70:=kG.refl (λb=>b=h5.size) u7 h7
  have B6k10:=B67.set (i:=0) (v:= .int .i64 2) (by simp)
  have s7k10:=s70.setR (b:=h5.size) (o:=0) (v:= .int .i64 2) (.inr rfl) (by rw[B67.2.2.2.1];exact az _)
  obtain⟨h9,hh9⟩:=kJ (lh h7 h5.size 0 (.int .i64 2))
  rw[<-hh9]at B6k10 s7k10
  simp only[bP]at B6k10
  have B69:=B6k10
  have B19:=B17.step s7k10 (by omega)
  have hR9:=hR7.step s7k10 (by omega)
  have st9:=st7.trans s7k10 (λb hb q=>by omega)
  have w:=B19.sets (l:=[.int .i64 2,.int .i64 0,str t.2.1,.int .i64 t.2.2.2.2.1]) rfl
  have s10:=st9.rZ (b:=h.size) (o:=0) (l:=[.int .i64 2,.int .i64 0,str t.2.1,.int .i64 t.2.2.2.2.1]) (.inl (aH _)) (by rw[B19.2.2.2.1];exact az _) (by rw[B19.2.1];exact aH _)
  have s91:=kG.sets (S:=λb=>b=h.size) u7 h9 (b:=h.size) (o:=0) [.int .i64 2,.int .i64 0,str t.2.1,.int .i64 t.2.2.2.2.1] rfl (by rw[B19.2.2.2.1];exact az _) (by rw[B19.2.1];exact aH _)
  have hK':=hK3 _ _ _ _ s10 hd hT (hR9.step s91 (λq=>hne1 q.symm))
  simp only[hTD,lW]at hK'
  have B691:=B69.1
  have B191:=B19.1
  simp(disch:=first|omega|simp only[zz];try omega;done) only[↓reduceIte,go_sem,<-hh9,au k3,af k1,B67.at,B67.2.1,B67.2.2.1,B69.at,B17.2.1,B17.2.2.1,w.at,w.2.1]
  exact hK'
 by_cases k4:t.1=4
 ·have hTD:lN t=(3,0,tX t,tO t):=by unfold lN tK;simp [k4]
  have s70:=kG.refl (λb=>b=h5.size) u7 h7
  have B6k40:=B67.set (i:=0) (v:= .int .i64 3) (by simp)
  have s7k40:=s70.setR (b:=h5.size) (o:=0) (v:= .int .i64 3) (.inr rfl) (by rw[B67.2.2.2.1];exact az _)
  obtain⟨h9,hh9⟩:=kJ (lh h7 h5.size 0 (.int .i64 3))
  rw[<-hh9]at B6k40 s7k40
  simp only[bP]at B6k40
  have B69:=B6k40
  have B19:=B17.step s7k40 (by omega)
  have hR9:=hR7.step s7k40 (by omega)
  have st9:=st7.trans s7k40 (λb hb q=>by omega)
  have w:=B19.sets (l:=[.int .i64 3,.int .i64 0,str t.2.1,.int .i64 t.2.2.2.2.1]) rfl
  have s10:=st9.rZ (b:=h.size) (o:=0) (l:=[.int .i64 3,.int .i64 0,str t.2.1,.int .i64 t.2.2.2.2.1]) (.inl (aH _)) (by rw[B19.2.2.2.1];exact az _) (by rw[B19.2.1];exact aH _)
  have s91:=kG.sets (S:=λb=>b=h.size) u7 h9 (b:=h.size) (o:=0) [.int .i64 3,.int .i64 0,str t.2.1,.int .i64 t.2.2.2.2.1] rfl (by rw[B19.2.2.2.1];exact az _) (by rw[B19.2.1];exact aH _)
  have hK':=hK3 _ _ _ _ s10 hd hT (hR9.step s91 (λq=>hne1 q.symm))
  simp only[hTD,lW]at hK'
  have B691:=B69.1
  have B191:=B19.1
  simp(disch:=first|omega|simp only[zz];try omega;done) only[↓reduceIte,go_sem,<-hh9,au k3,au k1,af k4,B67.at,B67.2.1,B67.2.2.1,B69.at,B17.2.1,B17.2.2.1,w.at,w.2.1]
  exact hK'
 have k2: ¬t.1=99:=λq=>(by rw[q]at hT;cases hT)
 ·have hTD:lN t=(4,0,tX t,tO t):=by unfold lN tK;simp [k3,k1,k4]
  obtain⟨h9,hh9⟩:=kJ h7
  have B69:=B67
  have B19:=B17
  have hR9:=hR7
  have st9:=st7
  rw[<-hh9]at B69 B19 hR9 st9
  have w:=B19.sets (l:=[.int .i64 4,.int .i64 0,str t.2.1,.int .i64 t.2.2.2.2.1]) rfl
  have s10:=st9.rZ (b:=h.size) (o:=0) (l:=[.int .i64 4,.int .i64 0,str t.2.1,.int .i64 t.2.2.2.2.1]) (.inl (aH _)) (by rw[B19.2.2.2.1];exact az _) (by rw[B19.2.1];exact aH _)
  have s91:=kG.sets (S:=λb=>b=h.size) u7 h9 (b:=h.size) (o:=0) [.int .i64 4,.int .i64 0,str t.2.1,.int .i64 t.2.2.2.2.1] rfl (by rw[B19.2.2.2.1];exact az _) (by rw[B19.2.1];exact aH _)
  have hK':=hK3 _ _ _ _ s10 hd hT (hR9.step s91 (λq=>hne1 q.symm))
  simp only[hTD,lW]at hK'
  have B691:=B69.1
  have B191:=B19.1
  simp(disch:=first|omega|simp only[zz];try omega;done) only[↓reduceIte,go_sem,<-hh9,au k3,au k1,au k4,B69.at,B69.2.1,B19.2.1,B19.2.2.1,w.at,w.2.1]
  exact hK'
end Go.Proofs.Z
namespace Go.Ev
open Go Rep Edict
theorem mV{u:U}{h:H}{x:ll}{cs:List Value}:rep u h x cs=(cs=lW x):=by simp [mO,lD,qK,lW]
theorem uR:sz ll=4:=rfl
end Go.Ev
namespace Go.Proofs.Z
open Go Go.Ev Edict
def FF(vs:List Value)(h:H)(K:Value->H->Prop)(KP:List PanicEntry->H->Prop):Prop:= ∃(u:U) (rb:Nat) (sl:Value) (L:List Tok) (bad:nI) (i:Nat) (v:Bool),vs=[.pointer (some ⟨rb,0,none⟩),.bool v]/\yU u h rb sl L bad i/\
 (∀e,mP bad v (L.drop i)= .error e-> ∀u' h',kG (λb=>b=rb) u h u' h'->KP (gu e) h')/\
 (∀a q,mP bad v (L.drop i)= .ok (a,q)-> ∀u' h' w i',kG (λb=>b=rb) u h u' h'->yU u' h' rb sl L bad i'->L.drop i'=q->mr h.size u' h' w a.2.1->K (.agg #[str a.1,w,.int .i64 a.2.2]) h')
def ahs:mG:=λf vs h K KP=>(f=83/\su vs h K KP)\/(f=110/\vw vs h KP)\/(f=115/\zS vs h K)\/(f=93/\FH vs h K KP)\/(f=84/\zR vs h KP)\/(f=116/\ML vs h K KP)
theorem aaY:nz Tryz.prog ahs:=by
 rintro f vs h K KP (⟨rfl,hC⟩|⟨rfl,hC⟩|⟨rfl,hC⟩|⟨rfl,hC⟩|⟨rfl,hC⟩|⟨rfl,hC⟩)
 ·exact qp hC
 ·exact um hC
 ·exact yV hC
 ·exact Dv hC
 ·exact wX hC
 ·exact Ky hC
theorem Du{vs:List Value}{h:H}{K:Value->H->Prop}{KP:List PanicEntry->H->Prop}(hC:FF vs h K KP):ma Tryz.prog 92 vs h K KP:=by
 obtain⟨u,rb,sl,L,bad,i,v,rfl,hR,hKE,hKO⟩:=hC
 refine kP 2310909627514093683 [((some (.c1 (.ldn 3) (.t 4))),(.o1 (.ldn 3) (.t 4)))] aaY Tryz.func92 (by kernel_rfl) (by conv=>lhs;cbv;try simp only[mF]) ?_
 have s1:=kG.qZ S0 u h #[str [],.slice none 0 0,.int .i64 0] 52
 have B1:=kV.new (u:=u) (h:=h) [str [],.slice none 0 0,.int .i64 0] 52
 obtain⟨h1,hh1⟩:=kJ (h.push (.cells #[str [],.slice none 0 0,.int .i64 0] 52))
 obtain⟨u1,hu1⟩:=kJ (ub u h.size 0)
 have B1':kV u1 h1 h.size [str [],.slice none 0 0,.int .i64 0]:=by rw[hu1,hh1];exact B1
 rw[<-hh1,<-hu1]at s1
 clear B1
 have hR1:=hR.sZ s1
 have hrb:rb<h.size:=hR.1.1
 have hLl:=hR.2.2.2
 have hne1:h.size≠rb:=by omega
 have s1':kG (λb=>b=rb) u h u1 h1:=s1.mono (λ_ _ q=>q.elim)
 simp(disch:=first|omega|simp only[zz];try omega;done) only[↓reduceIte,go_sem,<-hh1]
 refine kD (.inr (.inr (.inr (.inl ⟨rfl,u1,rb,sl,L,bad,i,1,rfl,hR1,λu2 h2 s2 hd=> ?_,λu2 h2 t r s2 hd hk=> ?_,λu2 h2 t r s2 hd hk h0=>absurd h0 (by decide),λu2 h2 t r s2 hd hk _ hR2=>⟨kY,?_⟩⟩))))
 ·exact hKE bad (by rw[hd,mP]) _ _ (s1'.tZ s2)
 ·exact hKE (lF t) (by rw[hd,ru hk]) _ _ (s1'.tZ s2)
 have st2:kG (λb=>b=rb) u h u2 h2:=s1'.trans s2 (λ_ _ q=>q)
 have B12:=B1'.step s2 hne1
 rw[hd]at hKE hKO
 obtain⟨hlt,hget,hd2⟩:=mI hd
 have hb1:h.size<h2.size:=bM B1'.1 s2.ge.sz
 obtain⟨h3,h4,u4,hh3,hh4,B3,B4,s4,hz4⟩:=kZ u2 h2 [.int .i64 0,str [],.int .i64 0,.int .i64 0,.int .i64 0,.int .i64 0] (lK t) 177 rfl
 have B14:=B12.sZ s4
 have hR4:=hR2.sZ s4
 have st4:=st2.tZ s4
 obtain⟨h5,h6,u6,hh5,hh6,B5,B6,s6,hz6⟩:=kZ u4 h4 [str [],.slice none 0 0,.int .i64 0] [str t.2.1,.slice none 0 0,.int .i64 t.2.2.2.2.1] 52 rfl
 have B16:=B14.sZ s6
 have hR6:=hR4.sZ s6
 have st6:=st4.tZ s6
 simp only[lK]at hh4 B4 ⊢
 have B31:=B3.1
 have B41:=B4.1
 have B51:=B5.1
 have B61:=B6.1
 have hRb:=hR6.1.1
 simp(disch:=first|omega|simp only[zz];try omega;done) only[↓reduceIte,go_sem,<-hh3,<-hh4,B3.2.1,B3.2.2.1,B4.at,B4.2.1,<-hh5,<-hh6,B5.2.1,B5.2.2.1]
 refine kD (.inl ⟨rfl,u6,rb,sl,L,bad,i+1,rfl,hR6,λu7 h7 s7=>⟨λhd'=> ?_,λp q hd'=>⟨kY,?_⟩⟩⟩)
 ·rw[hd2]at hd'
  exact hKE bad (by rw[hd',zU hk]) _ _ (st6.tZ s7)
 rw[hd2]at hd'
 subst hd'
 rw[Cq hk]at hKE hKO
 have B17:=B16.sZ s7
 have B67:=B6.sZ s7
 have hR7:=hR6.sZ s7
 have st7:=st6.tZ s7
 have B671:=B67.1
 have B171:=B17.1
 have hRB7:=hR7.1
 have hRb7:=hRB7.1
 obtain⟨b6,hb6⟩:=kJ h4.size
 have hbb6:h.size<b6:=by have:=B14.1;omega
 rw[<-hb6]at B67 B671 ⊢
 clear hh3 hh4 hh5 hh6 B3 B4 B31 B41 B51 B61 B5 B6 hh1
 simp only[lK]
 by_cases h5:tK p=5
 case neg=>
  rw[ay h5]at hKE hKO
  have w:=B17.sets (l:=[str t.2.1,.slice none 0 0,.int .i64 t.2.2.2.2.1]) rfl
  have s8:=st7.rZ (b:=h.size) (o:=0) (l:=[str t.2.1,.slice none 0 0,.int .i64 t.2.2.2.2.1]) (.inl (aH _)) (by rw[B17.2.2.2.1];exact az _) (by rw[B17.2.1];exact aH _)
  have s78:=kG.sets (S:=λb=>b=h.size) u7 h7 (b:=h.size) (o:=0) [str t.2.1,.slice none 0 0,.int .i64 t.2.2.2.2.1] rfl (by rw[B17.2.2.2.1];exact az _) (by rw[B17.2.1];exact aH _)
  have hK':=hKO _ _ rfl _ _ _ _ s8 (hR7.step s78 (λq=>hne1 q.symm)) hd2 (.nil _ _ _)
  have h5': ¬p.1=5:=h5
  simp(disch:=first|omega|simp only[zz];try omega;done) only[↓reduceIte,go_sem,au h5',B67.at,B67.2.1,B17.2.1,B17.2.2.1,w.at,w.2.1]
  exact hK'
 rw[ah (by simp [h5])]at hKE hKO
 have h5':p.1=5:=h5
 obtain⟨hlt2,-,hd3⟩:=mI hd2
 obtain⟨h8,hh8,s8,hR8⟩:=hR7.adv hlt2
 have B18:=B17.step s8 hne1
 have B68:=B67.step s8 (by omega)
 have st8:kG (λb=>b=rb) u h u7 h8:=st7.trans s8 (λb _ q=>q)
 obtain⟨R,hRR⟩: ∃R,qO bad v [] q=R:=⟨_,rfl⟩
 rw[hRR]at hKE hKO
 have hKE': ∀e,R= .error e-> ∀u' h',kG (λb=>b=rb) u h u' h'->KP (gu e) h':=λe he=>hKE e (by rw[he])
 have hKO': ∀a q,R= .ok (a,q)-> ∀u' h' w i',kG (λb=>b=rb) u h u' h'->yU u' h' rb sl L bad i'->L.drop i'=q->mr h.size u' h' w a->K (.agg #[str t.2.1,w,.int .i64 t.2.2.2.2.1]) h':=λa q he=>hKO (tX t,a,tO t) q (by rw[he])
 clear hKE hKO
 simp(disch:=first|omega|simp only[zz];try omega;done) only[↓reduceIte,go_sem,af h5',hRB7.at,hRB7.2.1,hRB7.2.2.1,<-hh8]
 obtain⟨I,hI⟩:=kJ (α:=Nat->lm->H->Prop) λj σ h'=> ∃(u':U) (w:Value) (acc:List ll),σ 0= .pointer (some ⟨rb,0,none⟩)/\σ 1= .bool v/\σ 4= .pointer (some ⟨h.size,0,none⟩)/\σ 6= .pointer (some ⟨b6,0,none⟩)/\kG (λb=>b=rb) u h u' h'/\yU u' h' rb sl L bad j/\kV u' h' h.size [str [],.slice none 0 0,.int .i64 0]/\kV u' h' b6 [str t.2.1,w,.int .i64 t.2.2.2.2.1]/\mr h.size u' h' w acc/\(∀b,kN w b->b≠h.size/\b≠b6)/\acc.length<=8/\qO bad v acc (L.drop j)=R
 refine kH I (λj=>L.length - j) (i+1+1) (by rw[hI];exact⟨u7,_,[],by simp [kF],by simp [kF],by simp [kF],by simp [kF],st8,hR8,B18,B68,.nil _ _ _,λb ⟨_,_,_,q⟩=>(by cases q),by simp,by rw[hd3];exact hRR⟩) ?_
 clear hb6 hd2 hd3 hd hRR st7 B17 hR7 st6 st4 st2 s1 s2 s4 s6 s7 s8 hR6 hR4 hR2 hR1 B12 B14 B16 B18 B68 hR8 st8 B1' hRB7 hRb7 hRb B67 B671 B171 hh8 hz4 hz6 hb1
 intro j σ h' hy
 rw[hI]at hy
 obtain⟨u',w,acc,e0,e1,e4,e6,st,hRj,B4j,B6j,ow,hwb,hacc,hA⟩:=hy
 obtain⟨wa,wc,rfl,m1,m2⟩:=ow.sl
 have hB4:=B4j.1
 have hB6:=B6j.1
 have hz:=st.ge.sz
 by_cases h8:8<=acc.length
 ·simp(disch:=first|omega|simp only[zz];try omega;done) only[↓reduceIte,go_sem,e0,e6,B6j.at,B6j.2.1,af (show(8:Int)<=(acc.length:Nat) by omega)]
  refine kD (.inl ⟨rfl,u',rb,sl,L,bad,j,rfl,hRj,λu2 h2 s2=>⟨λhd=> ?_,λt2 r2 hd=>⟨kY,?_⟩⟩⟩)
  ·rw[hd,qO]at hA
   exact hKE' _ hA.symm _ _ (st.tZ s2)
  rw[hd,qG]at hA
  have hR2:=hRj.sZ s2
  have st2:=st.tZ s2
  simp only[lK]
  simp(disch:=first|omega|simp only[zz];try omega;done) only[↓reduceIte,go_sem,e1]
  refine kD (.inr (.inr (.inl ⟨rfl,t2.1,v,rfl,⟨kY,?_⟩⟩)))
  have B62:=B6j.sZ s2
  have hB62:=B62.1
  cases hT:pO t2.1 v with
  |true=>
   rw[ay ⟨h8,hT⟩]at hA
   simp(disch:=first|omega|simp only[zz];try omega;done) only[↓reduceIte,go_sem,e0]
   exact kD (.inr (.inr (.inr (.inr (.inl ⟨rfl,u2,rb,sl,L,bad,j,22,rfl,hR2,λu5 h5 s5=>⟨λq=>(uK hd q).elim,λt' r' hd'=>(by obtain⟨rfl,rfl⟩:=sj hd hd';exact hKE' _ hA.symm _ _ (st2.tZ s5))⟩⟩)))))
  |false=>
   rw[ah (λq=>by have:=q.2;rw[show tK t2=t2.1 from rfl,hT]at this;cases this),ay (show pO (tK t2) v=false from hT)]at hA
   simp(disch:=first|omega|simp only[zz];try omega;done) only[↓reduceIte,go_sem,e0,e1,e6,B62.at,B62.2.1]
   exact kD (.inr (.inr (.inr (.inr (.inr ⟨rfl,u2,rb,sl,L,bad,j,v,rfl,hR2,λu5 h5 s5 q=>(uK hd q).elim,λu5 h5 t' r' s5 hd' hT'=>(by obtain⟨rfl,rfl⟩:=sj hd hd';exact hKE' _ hA.symm _ _ (st2.tZ s5)),λu5 h5 t' r' s5 hd' hT'=>(by obtain⟨rfl,rfl⟩:=sj hd hd';rw[show tK t2=t2.1 from rfl,hT]at hT';cases hT')⟩)))))
 ·simp(disch:=first|omega|simp only[zz];try omega;done) only[↓reduceIte,go_sem,e0,e1,e6,B6j.at,B6j.2.1,au (show¬(8:Int)<=(acc.length:Nat) by omega)]
  refine kD (.inr (.inr (.inr (.inr (.inr ⟨rfl,u',rb,sl,L,bad,j,v,rfl,hRj,λu2 h2 s2 hd=> ?_,λu2 h2 t2 r2 s2 hd hT=> ?_,λu2 h2 t2 r2 s2 hd hT hR2=> ?_⟩)))))
  ·rw[hd,qO]at hA
   exact hKE' _ hA.symm _ _ (st.tZ s2)
  ·rw[hd,qG,ah (λq=>h8 q.1),ay hT]at hA
   exact hKE' _ hA.symm _ _ (st.tZ s2)
  rw[hd,qG,ah (λq=>h8 q.1),ah (by simp [hT])]at hA
  have hwn: ∀b,kN (.slice wa acc.length wc) b->b≠rb:=λb q=>by have:=ow.ge q;omega
  have hb6r:b6≠rb:=by omega
  have B62:=B6j.step s2 hb6r
  have B42:=B4j.step s2 hne1
  have ow2:=ow.step s2 (λb q q'=>hwn b q q')
  have hB62:=B62.1
  have hz2:h'.size<=h2.size:=s2.ge.sz
  refine⟨by simp(disch:=first|omega|simp only[zz];try omega;done) only[↓reduceIte,go_sem,e6,B6j.at,B62.at,B62.2.1],?_⟩
  obtain⟨x,hx⟩:=kJ (lN t2)
  rw[<-hx]at hA ⊢
  simp only[lW]
  simp(disch:=first|omega|simp only[zz];try omega;done) only[↓reduceIte,go_sem,e6,B62.at,B62.2.1]
  refine kK (by simp only[]) ow2 (x:=x) (by rw[mV];rfl) rfl rfl (by omega) (by omega) λa3 n3 c3 u3 h3 o3 s3 hO3=>⟨kY,?_⟩
  obtain⟨_,_,hme,m31,m32⟩:=o3.sl
  simp only[Value.slice.injEq]at hme
  obtain⟨rfl,rfl,rfl⟩:=hme
  obtain⟨acc2,hacc2⟩:=kJ (acc++[x])
  rw[<-hacc2]at hA o3 hO3 m31 ⊢
  have hl2:acc2.length=acc.length+1:=by rw[hacc2];simp
  have B63:=B62.step s3 (λq=>(hwb _ q).2 rfl)
  have B43:=B42.step s3 (λq=>(hwb _ q).1 rfl)
  have hR3:=hR2.step s3 (λq=>hwn _ q rfl)
  have hB63:=B63.1
  have hn3: ∀b,kN (.slice a3 acc2.length c3) b->b≠h.size/\b≠b6:=λb q=>(hO3 b q).elim (hwb b) (λz=>by omega)
  have B64:=B63.set (i:=1) (v:= .slice a3 acc2.length c3) (by simp)
  have s4:=kG.set (S:=λb=>b=b6) u3 h3 (b:=b6) (o:=1) (.slice a3 acc2.length c3) rfl (by rw[B63.2.2.2.1];exact az _)
  obtain⟨h4,hh4⟩:=kJ (lh h3 b6 1 (.slice a3 acc2.length c3))
  rw[<-hh4]at B64 s4
  simp only[cZ,bP]at B64
  have o4:=o3.step s4 (λb q q'=>(hn3 b q).2 q')
  have B44:=B43.step s4 (by omega)
  have hR4:=hR3.step s4 (λq=>hb6r q.symm)
  have st4:kG (λb=>b=rb) u h u3 h4:=((st.trans s2 (λ_ _ q=>q)).trans s3 (λb hb q=>by have:=ow.ge q;omega)).trans s4 (λb hb q=>by omega)
  simp(disch:=first|omega|simp only[zz];try omega;done) only[↓reduceIte,go_sem,e0,e6,B63.2.1,B63.2.2.1,<-hh4]
  refine kD (.inl ⟨rfl,u3,rb,sl,L,bad,j+1,rfl,hR4,λu5 h5 s5=>⟨λhd'=> ?_,λp q hd'=>⟨kY,?_⟩⟩⟩)
  ·have hd2:=(mI hd).2.2
   rw[hd2]at hd'
   subst hd'
   exact hKE' _ hA.symm _ _ (st4.tZ s5)
  have hd2:=(mI hd).2.2
  have hd2':=hd'
  rw[hd2]at hd'
  subst hd'
  simp only at hA
  obtain⟨hlt2,-,hd3⟩:=mI hd2'
  have hR5:=hR4.sZ s5
  have B65:=B64.sZ s5
  have B45:=B44.sZ s5
  have o5:=o4.sZ s5
  have st5:=st4.tZ s5
  have hRB5:=hR5.1
  have hRb5:=hRB5.1
  obtain⟨h6,hh6,s6,hR6⟩:=hR5.adv hlt2
  have B66:=B65.step s6 hb6r
  have B46:=B45.step s6 hne1
  have o6:=o5.step s6 (λb q q'=>by have:=o5.ge q;omega)
  have st6:kG (λb=>b=rb) u h u5 h6:=st5.trans s6 (λb _ q=>q)
  have hB66:=B66.1
  have hB46:=B46.1
  simp only[lK]
  by_cases h7:p.1=7
  ·rw[ay (show tK p=7 from h7)]at hA
   simp(disch:=first|omega|simp only[zz];try omega;done) only[↓reduceIte,go_sem,af h7,e0,hRB5.at,hRB5.2.1,hRB5.2.2.1,<-hh6]
   refine⟨j+1+1,?_,by omega⟩
   rw[hI]
   refine⟨u5,_,acc2,?_,?_,?_,?_,st6,hR6,B46,B66,o6,hn3,by omega,by rw[hd3];exact hA⟩<;>simp [kF,e0,e1,e4,e6]
  rw[ah (show¬tK p=7 from h7)]at hA
  by_cases h6':p.1=6
  ·rw[ay (show tK p=6 from h6')]at hA
   have w:=B46.sets (l:=[str t.2.1,.slice a3 acc2.length c3,.int .i64 t.2.2.2.2.1]) rfl
   have s7:=st6.rZ (b:=h.size) (o:=0) (l:=[str t.2.1,.slice a3 acc2.length c3,.int .i64 t.2.2.2.2.1]) (.inl (aH _)) (by rw[B46.2.2.2.1];exact az _) (by rw[B46.2.1];exact aH _)
   have s67:=kG.sets (S:=λb=>b=h.size) u5 h6 (b:=h.size) (o:=0) [str t.2.1,.slice a3 acc2.length c3,.int .i64 t.2.2.2.2.1] rfl (by rw[B46.2.2.2.1];exact az _) (by rw[B46.2.1];exact aH _)
   have hK':=hKO' acc2 _ hA.symm _ _ _ _ s7 (hR6.step s67 (λq=>hne1 q.symm)) hd3 (o6.step s67 (λb q q'=>(hn3 b q).1 q'))
   simp(disch:=first|omega|simp only[zz];try omega;done) only[↓reduceIte,go_sem,au h7,af h6',e0,e4,e6,hRB5.at,hRB5.2.1,hRB5.2.2.1,<-hh6,B66.at,B66.2.1,B46.2.1,B46.2.2.1,w.at,w.2.1]
   exact hK'
  ·rw[ah (show¬tK p=6 from h6')]at hA
   simp(disch:=first|omega|simp only[zz];try omega;done) only[↓reduceIte,go_sem,au h7,au h6',e0]
   exact kD (.inr (.inl ⟨rfl,u5,rb,sl,L,bad,j+1,rfl,hR5,λu8 h8 s8=>⟨λq=>(uK hd2' q).elim,λt' r' hd'=>(by obtain⟨rfl,rfl⟩:=sj hd2' hd';exact hKE' _ hA.symm _ _ (st5.tZ s8))⟩⟩))
end Go.Proofs.Z
namespace Edict
variable {s:List UInt8} {o:Nat}
theorem zZ{k j i:Nat}(hj:j<=s.length)(hi:k+i<j):kS (sub s k j) i=kS s (k+i):=by
 unfold kS sub
 rw[aO,aO,dz,bV,ay hi]
def Wi(k:Int):List UInt8:=if k=5 then [40]else if k=6 then [41]else if k=7 then [44]else if k=8 then [46]else if k=9 then [58,45]else if k=10 then [110,111,116]else []
def opF(p:Int):List UInt8:=if p=1 then [61]else if p=2 then [33,61]else if p=3 then [60]else if p=4 then [60,61]else if p=5 then [62]else if p=6 then [62,61]else []
def SpK(w:List UInt8)(k:Int)(v:List UInt8)(n p:Int)(stop wide:Prop):Prop:=
 ((k=1\/k=2)/\v=w/\n=0/\p=0/\w.length<=64/\(∀i,i<w.length->uJ (kS w i)=true)/\qB (kS w 0)=false/\(Pw (kS w 0)=true↔k=1)/\w≠[110,111,116]/\stop)\/
 (k=3/\v=[]/\p=0/\(∃neg d,w=uO neg++d/\d≠[]/\(∀c∈d,qB c.toNat=true)/\rX neg d=some n)/\stop)\/
 (k=4/\n=0/\p=0/\v.length<=255/\kS w 0=34/\mU w 0 1 []= .ok (4,v,0,0,0,(w.length:Int)))\/
 (5<=k/\k<=10/\v=[]/\n=0/\p=0/\w=Wi k/\(k=10->stop))\/
 (k=11/\v=[]/\n=0/\1<=p/\p<=6/\w=opF p/\(p=3\/p=5->wide))
theorem abd{a b:Nat}(h:pr s o a b=true)(ha:a<256)(hb:b<256):o+2<=s.length/\sub s o (o+2)=[UInt8.ofNat a,UInt8.ofNat b]:=by
 unfold pr at h
 simp only[bA,bf,beq_iff_eq]at h
 refine⟨by omega,bW λi=> ?_⟩
 unfold sub
 rw[dz,bV]
 by_cases h0:i=0
 ·subst h0;rw[ay (by omega),FI (by omega)];simp [h.1.2]
 by_cases h1:i=1
 ·subst h1;rw[ay (by omega),FI (by omega)];simp [h.2]
 ·rw[ah (by omega),aW];simp;omega
theorem Ye(h:o<s.length):sub s o (o+1)=[UInt8.ofNat (kS s o)]:=by
 refine bW λi=> ?_
 unfold sub
 rw[dz,bV]
 by_cases h0:i=0
 ·subst h0;rw[ay (by omega),dO,FI h];rfl
 ·rw[ah (by omega),aW];simp;omega
theorem DD{s:List UInt8}{o:Nat}: ∀(n i:Nat) (acc v:List UInt8) (e:Nat),s.length - i<=n->acc.length<=255->mU s o i acc= .ok (4,v,0,0,(o:Int),(e:Int))->v.length<=255
 |n,i,acc,v,e,hn,ha,h=>by
  unfold mU at h
  split at h
  ·rename_i hi
   split at h
   ·cases h;exact ha
   ·split at h
    ·split at h
     ·cases h
     ·split at h
      ·cases h
      ·rename_i q1 q2
       have:=tH s i
       cases n with
       |zero=>omega
       |succ n=>exact DD n _ _ v e (by omega) (by simp;omega) h
    ·split at h
     ·cases h
     ·cases n with
      |zero=>omega
      |succ n=>exact DD n _ _ v e (by omega) (by simp;omega) h
  ·cases h
theorem KH{t:Tok}(ho:o<s.length)(h:wT s o= .ok t): ∃(k:Int) (v:List UInt8) (n p:Int) (e:Nat),t=(k,v,n,p,(o:Int),(e:Int))/\o<e/\e<=s.length/\SpK (sub s o e) k v n p (¬(e<s.length/\uJ (kS s e)=true)) (¬(e<s.length/\kS s e=61)):=by
 have hint: ∀b,(b=o\/b=o+1)->(b=o+1->kS s o=45)->qB (kS s b)=true->uk s o b= .ok t-> ∃(k:Int) (v:List UInt8) (n p:Int) (e:Nat),t=(k,v,n,p,(o:Int),(e:Int))/\o<e/\e<=s.length/\SpK (sub s o e) k v n p (¬(e<s.length/\uJ (kS s e)=true)) (¬(e<s.length/\kS s e=61)):=by
  intro b hb hm hd hi
  have hbl:b<s.length:=eY λh=>by rw[si h]at hd;simp [qB]at hd
  have h1:=vK hbl (by unfold uJ;rw[hd];rfl)
  have h2:=uQ s b (by omega)
  obtain⟨r,hr⟩:=kJ (nG s b)
  have hend:= @GH s b
  unfold uk at hi
  rw[<-hr]at hi h1 h2 hend
  have hds:wR s b r=true-> ∀c∈sub s b r,qB c.toNat=true:=λq c hc=>by unfold wR at q;exact bU.1 q c hc
  have hdn:sub s b r≠[]:=λq=>by have:=bL List.length q;rw[tJ h2]at this;simp at this;omega
  have hw:sub s o r=uO (decide (o<b))++sub s b r:=by
   rcases hb with rfl|rfl
   ·simp [uO]
   ·rw[decide_eq_true (by omega)]
    simp only[uO,dx]
    refine bW λi=> ?_
    cases i with
    |zero=>
     unfold sub
     rw[dz,bV,ay (by omega),dO,FI ho,hm rfl];rfl
    |succ i=>
     unfold sub
     rw[List.singleton_append,fQ,dz,dz,show o+1+i=o+(i+1) by omega]
  split at hi
  ·rename_i hall
   split at hi
   ·rename_i hlt
    split at hi
    ·rename_i hle
     cases hi
     refine⟨3,[],_,0,r,rfl,by omega,h2,.inr (.inl ⟨rfl,rfl,rfl,⟨true,_,by rw[hw,decide_eq_true hlt],hdn,hds hall,?_⟩,hend⟩)⟩
     unfold rX;rw[ay rfl,ay hle]
    ·cases hi
   ·rename_i hlt
    split at hi
    ·rename_i hle
     cases hi
     refine⟨3,[],_,0,r,rfl,by omega,h2,.inr (.inl ⟨rfl,rfl,rfl,⟨false,_,by rw[hw,decide_eq_false hlt],hdn,hds hall,?_⟩,hend⟩)⟩
     unfold rX;rw[ah (by decide),ay hle]
    ·cases hi
  ·cases hi
 unfold wT at h
 rw[ah (by omega)]at h
 split at h
 ·rename_i hd;exact hint o (.inl rfl) (λq=>by omega) hd h
 rename_i hnd
 split at h
 ·rename_i hd;exact hint (o+1) (.inr rfl) (λ_=>hd.1) hd.2 h
 split at h
 ·rename_i hw
  have h1:=vK ho hw
  have h2:=uQ s o (by omega)
  have hend:= @GH s o
  have hin:= @VF s o
  unfold rY at h
  obtain⟨r,hr⟩:=kJ (nG s o)
  rw[<-hr]at h h1 h2 hend
  have hl:(sub s o r).length=r - o:=tJ h2
  have hall: ∀i,i<(sub s o r).length->uJ (kS (sub s o r) i)=true:=λi hi=>by rw[zZ h2 (by omega)];exact(hin (i:=o+i) (by omega) (by omega)).2
  have h0:kS (sub s o r) 0=kS s o:=by rw[zZ h2 (by omega)];rfl
  split at h
  ·cases h
  split at h
  ·rename_i hn
   cases h
   exact⟨10,[],0,0,r,rfl,h1,h2,.inr (.inr (.inr (.inl ⟨by decide,by decide,rfl,rfl,rfl,hn,λ_=>hend⟩)))⟩
  rename_i hn
  split at h
  ·rename_i hlo
   cases h
   exact⟨1,_,0,0,r,rfl,h1,h2,.inl ⟨.inl rfl,rfl,rfl,rfl,by omega,hall,by rw[h0];simpa using hnd,by rw[h0];simp [hlo],hn,hend⟩⟩
  ·rename_i hlo
   cases h
   exact⟨2,_,0,0,r,rfl,h1,h2,.inl ⟨.inr rfl,rfl,rfl,rfl,by omega,hall,by rw[h0];simpa using hnd,by rw[h0];simp [hlo],hn,hend⟩⟩
 split at h
 ·rename_i hq
  obtain⟨e,v,rfl,h1,h2⟩:=yP h
  refine⟨4,v,0,0,e,rfl,by omega,h2,.inr (.inr (.inl ⟨rfl,rfl,rfl,DD s.length _ _ v e (by omega) (by simp) h,?_,?_⟩))⟩
  ·rw[zZ h2 (by omega)];exact hq
  ·have hl:=tJ (s:=s) (a:=o) h2
   have ha:Ag s (sub s o e) (o+1) 1 (e - (o+1)):=⟨by omega,by omega,λi hi=>by rw[zZ h2 (by omega),dY]⟩
   have:=MP (p:=0) h ha
   rw[this,hl]
   have e1:1+(e - (o+1))=e - o:=by omega
   rw[e1];rfl
 unfold wS at h
 have two: ∀(k op:Int) (a b:Nat),a<256->b<256->pr s o a b=true->(MC k op o 2:TR)= .ok t->(SpK [UInt8.ofNat a,UInt8.ofNat b] k [] 0 op (¬(o+2<s.length/\uJ (kS s (o+2))=true)) (¬(o+2<s.length/\kS s (o+2)=61)))-> ∃(k:Int) (v:List UInt8) (n p:Int) (e:Nat),t=(k,v,n,p,(o:Int),(e:Int))/\o<e/\e<=s.length/\SpK (sub s o e) k v n p (¬(e<s.length/\uJ (kS s e)=true)) (¬(e<s.length/\kS s e=61)):=by
  intro k op a b ha hb hp ht hs
  obtain⟨q1,q2⟩:=abd hp ha hb
  cases ht
  exact⟨k,[],0,op,o+2,rfl,by omega,q1,by rw[q2];exact hs⟩
 have one: ∀(k op:Int),(MC k op o 1:TR)= .ok t->(SpK [UInt8.ofNat (kS s o)] k [] 0 op (¬(o+1<s.length/\uJ (kS s (o+1))=true)) (¬(o+1<s.length/\kS s (o+1)=61)))-> ∃(k:Int) (v:List UInt8) (n p:Int) (e:Nat),t=(k,v,n,p,(o:Int),(e:Int))/\o<e/\e<=s.length/\SpK (sub s o e) k v n p (¬(e<s.length/\uJ (kS s e)=true)) (¬(e<s.length/\kS s e=61)):=by
  intro k op ht hs
  cases ht
  exact⟨k,[],0,op,o+1,rfl,by omega,by omega,by rw[Ye ho];exact hs⟩
 have wide: ∀a,kS s o=a->pr s o a 61=false-> ¬(o+1<s.length/\kS s (o+1)=61):=λa ha hp q=>by
  unfold pr at hp;simp [ha,q.1,q.2]at hp
 by_cases q1:pr s o 58 45=true
 ·rw[ay q1]at h;exact two 9 0 58 45 (by decide) (by decide) q1 h (.inr (.inr (.inr (.inl ⟨by decide,by decide,rfl,rfl,rfl,by decide,λq=>by cases q⟩))))
 rw[ah q1]at h
 by_cases q2:pr s o 33 61=true
 ·rw[ay q2]at h;exact two 11 2 33 61 (by decide) (by decide) q2 h (.inr (.inr (.inr (.inr ⟨rfl,rfl,rfl,by decide,by decide,by decide,λq=>by omega⟩))))
 rw[ah q2]at h
 by_cases q3:pr s o 60 61=true
 ·rw[ay q3]at h;exact two 11 4 60 61 (by decide) (by decide) q3 h (.inr (.inr (.inr (.inr ⟨rfl,rfl,rfl,by decide,by decide,by decide,λq=>by omega⟩))))
 rw[ah q3]at h
 by_cases q4:pr s o 62 61=true
 ·rw[ay q4]at h;exact two 11 6 62 61 (by decide) (by decide) q4 h (.inr (.inr (.inr (.inr ⟨rfl,rfl,rfl,by decide,by decide,by decide,λq=>by omega⟩))))
 rw[ah q4]at h
 by_cases q5:kS s o=60
 ·rw[ay q5]at h;exact one 11 3 h (.inr (.inr (.inr (.inr ⟨rfl,rfl,rfl,by decide,by decide,by rw[q5];decide,λ_=>wide 60 q5 (by simpa using q3)⟩))))
 rw[ah q5]at h
 by_cases q6:kS s o=62
 ·rw[ay q6]at h;exact one 11 5 h (.inr (.inr (.inr (.inr ⟨rfl,rfl,rfl,by decide,by decide,by rw[q6];decide,λ_=>wide 62 q6 (by simpa using q4)⟩))))
 rw[ah q6]at h
 by_cases q7:kS s o=61
 ·rw[ay q7]at h;exact one 11 1 h (.inr (.inr (.inr (.inr ⟨rfl,rfl,rfl,by decide,by decide,by rw[q7];decide,λq=>by omega⟩))))
 rw[ah q7]at h
 have mk: ∀(k:Int) (a:Nat),kS s o=a->[UInt8.ofNat a]=Wi k->5<=k->k<10->(MC k 0 o 1:TR)= .ok t-> ∃(k:Int) (v:List UInt8) (n p:Int) (e:Nat),t=(k,v,n,p,(o:Int),(e:Int))/\o<e/\e<=s.length/\SpK (sub s o e) k v n p (¬(e<s.length/\uJ (kS s e)=true)) (¬(e<s.length/\kS s e=61)):=λk a ha hm h5 h10 ht=>one k 0 ht (.inr (.inr (.inr (.inl ⟨h5,by omega,rfl,rfl,rfl,by rw[ha];exact hm,λq=>by omega⟩))))
 by_cases q8:kS s o=40
 ·rw[ay q8]at h;exact mk 5 40 q8 (by decide) (by decide) (by decide) h
 rw[ah q8]at h
 by_cases q9:kS s o=41
 ·rw[ay q9]at h;exact mk 6 41 q9 (by decide) (by decide) (by decide) h
 rw[ah q9]at h
 by_cases q10:kS s o=44
 ·rw[ay q10]at h;exact mk 7 44 q10 (by decide) (by decide) (by decide) h
 rw[ah q10]at h
 by_cases q11:kS s o=46
 ·rw[ay q11]at h;exact mk 8 46 q11 (by decide) (by decide) (by decide) h
 rw[ah q11]at h
 cases h
end Edict
namespace Edict
variable {i:Nat} {w w' a b u:Int} {ws E:List Nat} {W:List (List Nat)}
abbrev pW:=Bool×Int
abbrev pK:=Int×List pW
abbrev vP:=Int×pW×pW
abbrev lY:=Int×List Int
abbrev lG:=Int×Int×Int×List (Int×Int)×List Int×vP×Int
abbrev oU:=Int×pK×vP
def Jc:pW:=(false,0)
def zy:pK:=(0,[])
def oQ:vP:=(0,Jc,Jc)
def mR:lG:=(0,-1,-1,[],[],oQ,0)
def mq(l:List pW)(n:Int):Nat:=l.findIdx λt=>t.1 && decide (t.2=n)
def mW(l:List pW)(s:pW):Int:=if s.1 then -1 - (mq l s.2:Int)else s.2
def lJ(p:pK):lY:=(p.1,p.2.map (mW p.2))
def CW(l:List pW)(i:Nat)(s:pW):Bool:=s.1 && decide (mq l s.2=i)
def oh(w:Int)(l:List pW)(i:Nat):List pW->List (Int×Int)
 |[]=>[]
 |s::m=>if CW l i s=true/\s.2<w then((i:Int),s.2)::oh w l (i+1) m else oh w l (i+1) m
def qI(w:Int)(l:List pW)(i:Nat):List pW->List Int
 |[]=>[]
 |s::m=>if CW l i s=true/\ ¬s.2<w then(i:Int)::qI w l (i+1) m else qI w l (i+1) m
def ou(w:Int)(l:List pW):=oh w l 0 l
def qA(w:Int)(l:List pW):=qI w l 0 l
def ut(A:List lY)(s:lY):Nat:=A.findIdx λx=>decide (x=s)
def vC(A:List lY)(u w:Int)(c:oU):lG:=if c.1=2 then(2,u,-1,[],[],c.2.2,w)else(c.1,u,ut A (lJ c.2.1),ou w c.2.1.2,qA w c.2.1.2,oQ,w+(qA w c.2.1.2).length)
def vg:Int->List pW->Option Int
 |w,[]=>some w
 |w,s::m=>if s.1=true/\w<s.2 then none else vg (if s.1=true/\s.2=w then w+1 else w) m
theorem xB{l:List pW}{n:Int}(h: ∃t∈l,t.1=true/\t.2=n):mq l n<l.length/\ ∃t,l[mq l n]? =some t/\t.1=true/\t.2=n:=by
 obtain⟨t,ht,h1,h2⟩:=h
 have:mq l n<l.length:=dD ⟨t,ht,by simp [h1,h2]⟩
 refine⟨this,l[mq l n],by simp [this],?_⟩
 have q:=fE (p:=λt:pW=>t.1 && decide (t.2=n)) (w:=this)
 unfold mq
 simpa using q
theorem xC{l:List pW}{n:Int}{t:pW}(h:l[i]? =some t)(h1:t.1=true)(h2:t.2=n):mq l n<=i:=by
 apply bR
 intro q
 have:=gm (p:=λt:pW=>t.1 && decide (t.2=n)) (xs:=l) (i:=i) (by unfold mq at q;omega)
 obtain⟨hi,e⟩:=aJ.1 h
 rw[e]at this
 simp [h1,h2]at this
theorem Oj{w:Int}(l:List pW): ∀(m p:List pW) (x w':Int),l=p++m->w<=x->(∀t∈p,t.1=true->t.2<x)->(∀n,w<=n->n<x-> ∃t∈p,t.1=true/\t.2=n)->vg x m=some w'->
  w'=x+(qI w l p.length m).length/\(∀(k:Nat) (i:Int),(qI w l p.length m)[k]? =some i-> ∃j:Nat,i=(j:Int)/\p.length<=j/\l[j]? =some (true,x+k)/\mq l (x+k)=j)
 |[],p,x,w',_,_,_,_,h=>by
  cases h;exact⟨by simp [qI],λk i q=>by simp [qI]at q⟩
 |s::m,p,x,w',hl,hw,h1,h2,h=>by
  unfold vg at h
  split at h
  ·cases h
  rename_i hn
  have hl':l=(p++[s])++m:=by rw[hl];simp
  have hs:l[p.length]? =some s:=by rw[hl];simp
  by_cases hv:s.1=true/\s.2=x
  ·rw[ay hv]at h
   have hf:CW l p.length s=true:=by
    unfold CW
    rw[hv.1]
    have:=xC hs hv.1 rfl
    have q:mq l s.2=p.length:=by
     apply bR;intro hne
     obtain⟨q1,t,q2,q3,q4⟩:=xB (l:=l) (n:=s.2) ⟨s,aI hs,hv.1,rfl⟩
     have hin:t∈p:=by
      have e:l[mq l s.2]? =p[mq l s.2]? :=by
       obtain⟨f,hf⟩:=kJ (mq l s.2)
       rw[<-hf]at hne this ⊢
       rw[hl,bi (by omega)]
      rw[e]at q2
      exact aI q2
     have:=h1 t hin q3
     have:=hv.2
     omega
    simp [q]
   have hnw: ¬s.2<w:=by have:=hv.2;omega
   have hw1:w<=x+1:=by omega
   obtain⟨a,b⟩:=Oj l m (p++[s]) (x+1) w' hl' hw1 (λt ht q=>by
     rcases bG.1 ht with q1|q1
     ·have:=h1 t q1 q;omega
     ·rw[bJ.1 q1];have:=hv.2;omega) (λn q1 q2=>by
     by_cases hnx:n=x
     ·exact⟨s,by simp,hv.1,by rw[hv.2,hnx]⟩
     ·obtain⟨t,q3,q4⟩:=h2 n q1 (by omega);exact⟨t,by simp [q3],q4⟩) h
   unfold qI
   rw[ay ⟨hf,hnw⟩]
   rw[aN,bz]at a b
   refine⟨by rw[a,aM];omega,λk i q=> ?_⟩
   cases k with
   |zero=>
    cases q
    have e0:x+((0:Nat):Int)=s.2:=by rw[hv.2];simp
    refine⟨p.length,rfl,aH _,?_,?_⟩
    ·rw[e0,hs];obtain⟨s1,s2⟩:=s;simp only at hv;rw[hv.1]
    ·rw[e0];unfold CW at hf;simp at hf;exact hf.2
   |succ k=>
    obtain⟨j,q1,q2,q3,q4⟩:=b k i q
    have e0:x+1+(k:Int)=x+((k+1:Nat):Int):=by omega
    rw[e0]at q3 q4
    exact⟨j,q1,by omega,q3,q4⟩
  ·rw[ah hv]at h
   have hng: ¬(CW l p.length s=true/\ ¬s.2<w):=fun⟨q1,q2⟩=>by
    unfold CW at q1
    simp at q1
    have hlt:s.2<x:=by
     apply bR;intro q3
     have q5:s.2≠x:=λq4=>hv ⟨q1.1,q4⟩
     exact hn ⟨q1.1,by have:=Int.not_lt.1 q3;omega⟩
    obtain⟨t,q3,q4,q5⟩:=h2 s.2 (Int.not_lt.1 q2) hlt
    obtain⟨i,q6,q7⟩:=gz.1 q3
    have:=xC (l:=l) (n:=s.2) (i:=i) (t:=t) (by rw[hl,bi q6];simp [q6,q7]) q4 q5
    omega
   unfold qI
   rw[ah hng]
   have:=Oj l m (p++[s]) x w' hl' hw (λt ht q=>by
     rcases bG.1 ht with q1|q1
     ·exact h1 t q1 q
     ·rw[bJ.1 q1]at q ⊢
      apply bR;intro q3
      have:s.2≠x:=λq4=>hv ⟨q,q4⟩
      exact hn ⟨q,by omega⟩) (λn q1 q2=>by
     obtain⟨t,q3,q4⟩:=h2 n q1 q2;exact⟨t,by simp [q3],q4⟩) h
   rw[aN,bz]at this
   exact⟨this.1,λk i q=>by obtain⟨j,q1,q2,q3⟩:=this.2 k i q;exact⟨j,q1,by omega,q3⟩⟩
theorem tC{w:Int}{l:List pW}{a b:Int}: ∀{m:List pW} {i:Nat},(a,b)∈oh w l i m↔ ∃(k:Nat) (s:pW),m[k]? =some s/\CW l (i+k) s=true/\s.2<w/\a=((i+k:Nat):Int)/\b=s.2
 |[],i=>by simp [oh]
 |s::m,i=>by
  unfold oh
  have ih:= @tC w l a b m (i+1)
  have e:(∃(k:Nat) (t:pW),(s::m)[k]? =some t/\CW l (i+k) t=true/\t.2<w/\a=((i+k:Nat):Int)/\b=t.2)↔(CW l i s=true/\s.2<w/\a=(i:Int)/\b=s.2)\/(a,b)∈oh w l (i+1) m:=by
   rw[ih]
   constructor
   ·rintro ⟨k,t,h1,h2⟩
    cases k with
    |zero=>cases h1;exact .inl (by simpa using h2)
    |succ k=>exact .inr ⟨k,t,h1,by rw[ik i 1 k];exact h2⟩
   ·rintro (h|⟨k,t,h1,h2⟩)
    ·exact⟨0,s,rfl,by simpa using h⟩
    ·exact⟨k+1,t,h1,by rw[ik i 1 k]at h2;exact h2⟩
  rw[e]
  split
  ·rename_i h
   simp only[bn,bS]
   constructor
   ·rintro (q|q)
    ·exact .inl ⟨h.1,h.2,q⟩
    ·exact .inr q
   ·rintro (q|q)
    ·exact .inl q.2.2
    ·exact .inr q
  ·rename_i h
   constructor
   ·exact .inr
   ·rintro (q|q)
    ·exact absurd ⟨q.1,q.2.1⟩ h
    ·exact q
theorem Ai{w:Int}{l:List pW}{a:Int}: ∀{m:List pW} {i:Nat},a∈qI w l i m↔ ∃(k:Nat) (s:pW),m[k]? =some s/\CW l (i+k) s=true/\ ¬s.2<w/\a=((i+k:Nat):Int)
 |[],i=>by simp [qI]
 |s::m,i=>by
  unfold qI
  have ih:= @Ai w l a m (i+1)
  have e:(∃(k:Nat) (t:pW),(s::m)[k]? =some t/\CW l (i+k) t=true/\ ¬t.2<w/\a=((i+k:Nat):Int))↔(CW l i s=true/\ ¬s.2<w/\a=(i:Int))\/a∈qI w l (i+1) m:=by
   rw[ih]
   constructor
   ·rintro ⟨k,t,h1,h2⟩
    cases k with
    |zero=>cases h1;exact .inl (by simpa using h2)
    |succ k=>exact .inr ⟨k,t,h1,by rw[ik i 1 k];exact h2⟩
   ·rintro (h|⟨k,t,h1,h2⟩)
    ·exact⟨0,s,rfl,by simpa using h⟩
    ·exact⟨k+1,t,h1,by rw[ik i 1 k]at h2;exact h2⟩
  rw[e]
  split
  ·rename_i h
   simp only[bn]
   constructor
   ·rintro (q|q)
    ·exact .inl ⟨h.1,h.2,q⟩
    ·exact .inr q
   ·rintro (q|q)
    ·exact .inl q.2.2
    ·exact .inr q
  ·rename_i h
   constructor
   ·exact .inr
   ·rintro (q|q)
    ·exact absurd ⟨q.1,q.2.1⟩ h
    ·exact q
def xD(j:Int)(v:Int)(ls:List (Int×Int)):Int:=ls.foldl (λv l=>if l.1=j then l.2 else v) v
def Eg(w j:Int)(k:Nat)(v:Int):List Int->Int
 |[]=>v
 |q::m=>Eg w j (k+1) (if q=j then w+k else v) m
theorem LA{j n:Int}: ∀{ls:List (Int×Int)} {v:Int},(∀l∈ls,l.1=j->l.2=n)->(v=n\/ ∃l∈ls,l.1=j)->xD j v ls=n
 |[],v,_,h=>by
  rcases h with h|⟨l,q,-⟩
  ·exact h
  ·cases q
 |x::ls,v,h1,h2=>by
  unfold xD
  rw[eP]
  refine LA (λl q=>h1 l (by simp [q])) ?_
  by_cases hx:x.1=j
  ·left;rw[ay hx];exact h1 x (by simp) hx
  ·rw[ah hx]
   rcases h2 with h2|⟨l,q,e⟩
   ·exact .inl h2
   ·rcases bn.1 q with rfl|q
    ·exact absurd e hx
    ·exact .inr ⟨l,q,e⟩
theorem Si{w j n:Int}: ∀{ls:List Int} {k:Nat} {v:Int},(∀i,ls[i]? =some j->w+(k+i:Nat)=n)->(v=n\/j∈ls)->Eg w j k v ls=n
 |[],k,v,_,h=>by
  rcases h with h|q
  ·exact h
  ·cases q
 |x::ls,k,v,h1,h2=>by
  unfold Eg
  refine Si (λi q=>by have:=h1 (i+1) q;rw[show k+1+i=k+(i+1) by omega];exact this) ?_
  by_cases hx:x=j
  ·left;rw[ay hx];exact h1 0 (by simp [hx])
  ·rw[ah hx]
   rcases h2 with h2|q
   ·exact .inl h2
   ·rcases bn.1 q with rfl|q
    ·exact absurd rfl hx
    ·exact .inr q
theorem Vd{l:List pW}(h:vg w l=some w'):w'=w+(qA w l).length/\ ∀(k:Nat) (i:Int),(qA w l)[k]? =some i-> ∃j:Nat,i=(j:Int)/\l[j]? =some (true,w+k)/\mq l (w+k)=j:=by
 have:=Oj (w:=w) l l [] w w' rfl (jQ _) (λt q=>by cases q) (λn q1 q2=>by omega) h
 exact⟨this.1,λk i q=>by obtain⟨j,q1,-,q3⟩:=this.2 k i q;exact⟨j,q1,q3⟩⟩
theorem LB{l:List pW}{n:Int}(h:vg w l=some w')(hs:l[i]? =some (true,n)):Eg w (mq l n) 0 (xD (mq l n) (-1) (ou w l)) (qA w l)=n:=by
 obtain⟨q1,t,q2,q3,q4⟩:=xB (l:=l) (n:=n) ⟨_,aI hs,rfl,rfl⟩
 have ht:t=(true,n):=by obtain⟨t1,t2⟩:=t;simp only at q3 q4;rw[q3,q4]
 rw[ht]at q2
 have hall: ∀k,(qA w l)[k]? =some (mq l n:Int)->w+((0+k:Nat):Int)=n:=λk q=>by
  obtain⟨j,e1,e2,e3⟩:=(Vd h).2 k _ q
  have:j=mq l n:=by omega
  rw[this,q2]at e2
  cases e2
  omega
 refine Si hall ?_
 by_cases hw:n<w
 ·left
  refine LA (λx q e=> ?_) (.inr ⟨((mq l n:Int),n),?_,rfl⟩)
  ·obtain⟨a,b⟩:=x
   obtain⟨k,s,p1,p2,p3,p4,p5⟩:=tC.1 q
   simp only at e p4 p5 ⊢
   have:k=mq l n:=by omega
   rw[this,q2]at p1
   cases p1
   exact p5
  ·exact tC.2 ⟨mq l n,(true,n),q2,by simp [CW],hw,by simp,rfl⟩
 ·right
  exact Ai.2 ⟨mq l n,(true,n),q2,by simp [CW],hw,by simp⟩
def aeD(w:Int)(ls:List (Int×Int))(ns:List Int)(c:Int):pW:=if 0<=c then(false,c)else(true,Eg w (-1 - c) 0 (xD (-1 - c) (-1) ls) ns)
def sN(p:pK):Prop:=0<=p.1/\p.2.length<=8/\ ∀s∈p.2,0<=s.2
theorem Sj{p:pK}(hp:sN p)(h:vg w p.2=some w'){s:pW}(hs:p.2[i]? =some s):aeD w (ou w p.2) (qA w p.2) (mW p.2 s)=s:=by
 obtain⟨v,n⟩:=s
 unfold aeD mW
 have h0:0<=n:=hp.2.2 _ (aI hs)
 cases v with
 |false=>simp [h0]
 |true=>
  rw[ay rfl,ah (by omega)]
  have e: -1 - (-1 - (mq p.2 n:Int))=(mq p.2 n:Int):=by omega
  rw[e,LB h hs]
theorem aeg{p q:pK}(hp:sN p)(hq:sN q)(h:vg w p.2=some a)(k:vg w q.2=some b)(hs:lJ p=lJ q)(hl:ou w p.2=ou w q.2)(hn:qA w p.2=qA w q.2):p=q:=by
 obtain⟨p1,pl⟩:=p
 obtain⟨q1,ql⟩:=q
 unfold lJ at hs
 simp only[bS]at hs
 obtain⟨rfl,e⟩:=hs
 have:pl=ql:=by
  have hlen:pl.length=ql.length:=by have:=bL List.length e;simpa using this
  refine bW λi=> ?_
  have ei:=bL (λl=>l[i]?) e
  simp only[aR]at ei
  cases hx:pl[i]? with
  |none=>rw[jE]at hx;rw[aW (by omega)]
  |some s=>
   cases hy:ql[i]? with
   |none=>rw[jE]at hy;rw[aW (by omega)]at hx;cases hx
   |some t=>
    rw[hx,hy]at ei
    simp only[bH,bQ]at ei
    have a1:=Sj hp h hx
    have a2:=Sj hq k hy
    simp only at hl hn a1 a2
    rw[ei,hl,hn,a2]at a1
    rw[a1]
 rw[this]
def rA(s:pW)(w:Int):Prop:=0<=s.2/\(s.1=true->s.2<w)
def vO(w w':Int)(c:oU):Prop:=((c.1=1\/c.1=3/\w'=w)/\c.2.2=oQ/\sN c.2.1/\vg w c.2.1.2=some w')\/(c.1=2/\c.2.1=zy/\w'=w/\1<=c.2.2.1/\c.2.2.1<=6/\rA c.2.2.2.1 w/\rA c.2.2.2.2 w)
def Je(A:List lY)(c:oU):Prop:=c.1=2\/lJ c.2.1∈A
theorem ug{A:List lY}{s:lY}(h:s∈A):ut A s<A.length/\A[ut A s]? =some s:=by
 have:ut A s<A.length:=dD ⟨s,h,by simp⟩
 refine⟨this,?_⟩
 have q:=fE (p:=λx:lY=>decide (x=s)) (w:=this)
 unfold ut at this ⊢
 rw[aL this]
 simpa using q
theorem ace{A B:List lY}{s:lY}(h:s∈A):ut (A++B) s=ut A s:=by
 have q:=(ug h).1
 unfold ut at q ⊢
 rw[eF,ay q]
theorem acf{A B:List lY}{c:oU}(h:Je A c):vC (A++B) u w c=vC A u w c:=by
 unfold vC
 split
 ·rfl
 ·rename_i h2
  rw[ace (h.resolve_left h2)]
theorem acg{A:List lY}{c d:oU}(hc:vO w a c)(hd:vO w b d)(sc:Je A c)(sd:Je A d)(h:vC A u w c=vC A u w d):c=d:=by
 obtain⟨k,p,t⟩:=c
 obtain⟨k',p',t'⟩:=d
 unfold vC at h
 simp only[vO,Je]at hc hd sc sd h
 by_cases h2:k=2
 ·by_cases h2':k'=2
  ·rw[ay h2,ay h2']at h
   simp only[bS]at h
   rcases hc with hc|hc
   ·omega
   rcases hd with hd|hd
   ·omega
   rw[h2,h2',hc.2.1,hd.2.1,h.2.2.2.2.2.1]
  ·rw[ay h2,ah h2']at h
   simp only[bS]at h
   omega
 ·by_cases h2':k'=2
  ·rw[ah h2,ay h2']at h
   simp only[bS]at h
   omega
  ·rw[ah h2,ah h2']at h
   simp only[bS]at h
   obtain⟨e1,-,e2,e3,e4,-⟩:=h
   have hc:=hc.resolve_right (λq=>h2 q.1)
   have hd:=hd.resolve_right (λq=>h2' q.1)
   have s1:=ug (sc.resolve_left h2)
   have s2:=ug (sd.resolve_left h2')
   have e2':ut A (lJ p)=ut A (lJ p'):=by omega
   rw[e2',s2.2]at s1
   have es:lJ p=lJ p':=by have:=s1.2;simp at this;exact this.symm
   rw[e1,hc.2.1,hd.2.1,aeg hc.2.2.1 hd.2.2.1 hc.2.2.2 hd.2.2.2 es e3 e4]
theorem ah2{A:List lY}{c:oU}(hc:vO w w' c):(vC A u w c).2.2.2.2.2.2=w'/\(vC A u w c).1=c.1/\(vC A u w c).2.1=u:=by
 unfold vC
 rcases hc with hc|hc
 ·have h2:c.1≠2:=by rcases hc.1 with q|q<;>omega
  rw[ah h2]
  exact⟨(Vd hc.2.2.2).1.symm,rfl,rfl⟩
 ·rw[ay hc.1];exact⟨hc.2.2.1.symm,hc.1.symm,rfl⟩
def wd(N:List lG)(i:Nat):Int:=(N.getD i mR).2.2.2.2.2.2
def kd(N:List lG)(i:Nat):Int:=(N.getD i mR).1
inductive Path (A:List lY) (N:List lG):List oU->List Nat->Nat->Prop
 |nil:Path A N [] [] 0
 |snoc {cs:List oU} {ws:List Nat} {u i:Nat} {c:oU}:Path A N cs ws u->u<i->i<N.length->N[i]? =some (vC A u (wd N u) c)->vO (wd N u) (wd N i) c->Je A c->Path A N (cs++[c]) (ws++[i]) i
theorem Path.len{A:List lY}{N:List lG}{cs:List oU}(p:Path A N cs ws i):cs.length=ws.length:=by
 induction p with
 |nil=>rfl
 |snoc _ _ _ _ _ _ ih=>simp [ih]
theorem zI{N:List lG}{n:lG}(h:N[i]? =some n):wd N i=n.2.2.2.2.2.2:=by unfold wd;rw[aO,h];rfl
theorem Sk{N:List lG}{n:lG}(h:N[i]? =some n):kd N i=n.1:=by unfold kd;rw[aO,h];rfl
theorem Ol{N M:List lG}(h:i<N.length):wd (N++M) i=wd N i:=by unfold wd;rw[aO,aO,bi h]
theorem Path.app{A B:List lY}{N M:List lG}{cs:List oU}(p:Path A N cs ws i):Path (A++B) (N++M) cs ws i:=by
 induction p with
 |nil=>exact .nil
 | @snoc cs ws u i c p h1 h2 h3 h4 h5 ih=>
  have e1:wd (N++M) u=wd N u:=Ol (by omega)
  refine .snoc ih h1 (by rw[aN];omega) ?_ (by rw[e1,Ol h2];exact h4) (h5.imp id λq=>di _ q)
  rw[bi h2,h3,e1,acf h5]
theorem Path.lt{A:List lY}{N:List lG}{cs:List oU}(p:Path A N cs ws i)(hN:0<N.length):i<N.length:=by
 cases p with
 |nil=>exact hN
 |snoc _ _ h _ _ _=>exact h
theorem Path.fst{A:List lY}{N:List lG}{cs:List oU}(p:Path A N cs ws i):(i=0/\cs=[]/\ws=[])\/(0<i/\ ∃cs' ws' u c,cs=cs'++[c]/\ws=ws'++[i]/\Path A N cs' ws' u/\u<i/\i<N.length/\N[i]? =some (vC A u (wd N u) c)/\vO (wd N u) (wd N i) c/\Je A c):=by
 cases p with
 |nil=>exact .inl ⟨rfl,rfl,rfl⟩
 | @snoc cs ws u i c p h1 h2 h3 h4 h5=>exact .inr ⟨by omega,cs,ws,u,c,rfl,rfl,p,h1,h2,h3,h4,h5⟩
theorem Fu{A:List lY}{c:oU}:(vC A u w c).1=c.1/\(vC A u w c).2.1=u:=by unfold vC;split<;>simp_all
theorem Path.same{A:List lY}{N:List lG}: ∀{i:Nat} {cs ds:List oU} {ws vs:List Nat},Path A N cs ws i->Path A N ds vs i->cs=ds/\ws=vs:=by
 intro i
 induction i using Nat.strongRecOn with
 |ind i ih=>
  intro cs ds ws vs p q
  rcases p.fst with⟨h0,rfl,rfl⟩|⟨h0,cs',ws',u,c,rfl,rfl,p',h1,-,h3,h4,h5⟩
  ·rcases q.fst with⟨-,rfl,rfl⟩|⟨k0,_⟩
   ·exact⟨rfl,rfl⟩
   ·omega
  ·rcases q.fst with⟨k0,_⟩|⟨-,ds',vs',v,d,rfl,rfl,q',k1,-,k3,k4,k5⟩
   ·omega
   rw[h3]at k3
   have e:vC A u (wd N u) c=vC A v (wd N v) d:=by simpa using k3
   have eu:(u:Int)=v:=by have a:=(Fu (A:=A) (u:=u) (w:=wd N u) (c:=c)).2;have b:=(Fu (A:=A) (u:=v) (w:=wd N v) (c:=d)).2;rw[e]at a;omega
   have eu:u=v:=by omega
   subst eu
   obtain⟨rfl,rfl⟩:=ih u h1 p' q'
   rw[acg h4 k4 h5 k5 e]
   exact⟨rfl,rfl⟩
theorem Path.one{A:List lY}{N:List lG}(hN:N.Nodup){cs:List oU}(p:Path A N cs ws i): ∀{vs:List Nat} {j:Nat},Path A N cs vs j->i=j/\ws=vs:=by
 induction p with
 |nil=>
  intro vs j q
  rcases q.fst with⟨rfl,-,rfl⟩|⟨-,cs',_,_,_,e,_⟩
  ·exact⟨rfl,rfl⟩
  ·simp at e
 | @snoc cs ws u i c p h1 h2 h3 h4 h5 ih=>
  intro vs j q
  rcases q.fst with⟨-,e,-⟩|⟨-,cs',ws',v,d,e,rfl,q',k1,k2,k3,k4,k5⟩
  ·simp at e
  obtain⟨e1,e2⟩:=gD e rfl
  simp only[aG,aP]at e2
  subst e1 e2
  obtain⟨rfl,rfl⟩:=ih q'
  have:i=j:=by
   rw[<-h3]at k3
   exact((jm h2 hN).1 k3.symm)
  exact⟨this,by rw[this]⟩
theorem Path.take{A:List lY}{N:List lG}{cs:List oU}(p:Path A N cs ws i): ∀k,k<=cs.length-> ∃j,Path A N (cs.take k) (ws.take k) j/\(∀m,k=m+1->ws[m]? =some j):=by
 induction p with
 |nil=>intro k hk;simp at hk;subst hk;exact⟨0,by simpa using .nil,λm q=>by omega⟩
 | @snoc cs ws u i c p h1 h2 h3 h4 h5 ih=>
  intro k hk
  have hl:=p.len
  rw[aN,bz]at hk
  by_cases hk':k<=cs.length
  ·obtain⟨j,q1,q2⟩:=ih k hk'
   refine⟨j,by rw[dH hk',dH (by omega)];exact q1,λm q=> ?_⟩
   rw[bi (by omega)]
   exact q2 m q
  ·have:k=cs.length+1:=by omega
   refine⟨i,?_,λm q=> ?_⟩
   ·rw[aK (by simp;omega),aK (by simp;omega)]
    exact .snoc p h1 h2 h3 h4 h5
   ·have:m=ws.length:=by omega
    rw[this];simp
structure Sl (A:List lY) (N:List lG):Prop where
 nd:N.Nodup
 ad:A.Nodup
 rt:N[0]? =some mR
 all: ∀i,i<N.length-> ∃cs ws,Path A N cs ws i/\cs.length<=16/\cs.Pairwise λa b=>a.1<=b.1
def qJ(A:List lY)(c:oU):List lY:=if c.1=2\/lJ c.2.1∈A then A else A++[lJ c.2.1]
def wE(N:List lG)(n:lG):List lG:=if n∈N then N else N++[n]
instance:DecidableEq vP:=inferInstance
instance:DecidableEq pK:=inferInstance
instance:DecidableEq oU:=inferInstanceAs (DecidableEq (Int×pK×vP))
instance:DecidableEq (List Int×vP×Int):=inferInstance
instance:DecidableEq (List (Int×Int)×List Int×vP×Int):=inferInstance
instance:DecidableEq lG:=inferInstance
def sQ(N:List lG)(n:lG):Nat:=N.findIdx λx=>decide (x=n)
theorem Xj{N:List lG}{n:lG}(h:n∈N):sQ N n<N.length/\N[sQ N n]? =some n:=by
 have:sQ N n<N.length:=dD ⟨n,h,by simp⟩
 refine⟨this,?_⟩
 have q:=fE (p:=λx:lG=>decide (x=n)) (w:=this)
 unfold sQ at this ⊢
 rw[aL this]
 simpa using q
theorem Xk{N:List lG}{n:lG}(h:n ∉ N):sQ N n=N.length:=by
 unfold sQ
 rw[List.findIdx_eq_length]
 intro x hx
 simp only[decide_eq_false_iff_not]
 intro e;exact h (e▸hx)
theorem Xl(A:List lY)(c:oU):Je (qJ A c) c/\ ∃B,qJ A c=A++B:=by
 unfold qJ Je
 split
 ·rename_i h;exact⟨h,[],by simp⟩
 ·exact⟨.inr (by simp),_,rfl⟩
theorem aeh{A:List lY}{c:oU}(h:A.Nodup):(qJ A c).Nodup:=by
 unfold qJ
 split
 ·exact h
 ·rename_i q
  rw[fB]
  refine⟨h,by simp,λa ha b hb=> ?_⟩
  rw[bJ.1 hb]
  intro e;exact q (.inr (e▸ha))
theorem aei{A:List lY}{N:List lG}{cs:List oU}{u:Nat}{c:oU}(I:Sl A N)(p:Path A N cs ws u)(hc:vO (wd N u) w' c)(hl:cs.length<16)(hp:(cs++[c]).Pairwise λa b=>a.1<=b.1)(n:lG)(hn:n=vC (qJ A c) u (wd N u) c):
  Sl (qJ A c) (wE N n)/\Path (qJ A c) (wE N n) (cs++[c]) (ws++[sQ N n]) (sQ N n)/\wd (wE N n) (sQ N n)=w'/\(n∈N↔ ∃vs j,Path A N (cs++[c]) vs j)/\(n∈N->wE N n=N/\qJ A c=A/\sQ N n<N.length)/\(n ∉ N->wE N n=N++[n]/\sQ N n=N.length):=by
 have h0:0<N.length:=by
  have:=I.rt
  apply bR;intro q
  rw[aW (by omega)]at this;cases this
 have hu:=p.lt h0
 obtain⟨hs,B,hB⟩:=Xl A c
 obtain⟨m1,m2,m3⟩:=ah2 (A:=qJ A c) (u:=u) hc
 rw[<-hn]at m1 m2 m3
 have hk:c.1≠0:=by rcases hc with⟨q|q,-⟩|⟨q,-⟩<;>omega
 by_cases hin:n∈N
 ·obtain⟨i1,i2⟩:=Xj hin
  have hi0:sQ N n≠0:=λq=>by
   rw[q,I.rt]at i2
   have e:mR=n:=by simpa using i2
   rw[<-e]at m2
   exact hk m2.symm
  obtain⟨ds,vs,q,q1,q2⟩:=I.all _ i1
  obtain⟨q0,_⟩|⟨-,cs',ws',v,d,rfl,rfl,q',k1,k2,k3,k4,k5⟩:=q.fst
  ·exact absurd q0 hi0
  rw[i2]at k3
  have e:n=vC A v (wd N v) d:=by simpa using k3
  have e1:=Fu (A:=A) (u:=v) (w:=wd N v) (c:=d)
  rw[<-e]at e1
  have euv:v=u:=by omega
  subst euv
  have e3:vC (qJ A c) v (wd N v) c=vC (qJ A c) v (wd N v) d:=by rw[<-hn,e,hB,acf k5]
  have hsd:Je (qJ A c) d:=by rw[hB];exact k5.imp id λq=>di _ q
  have hcd:=acg hc k4 hs hsd e3
  subst hcd
  have hA:qJ A c=A:=ay k5
  have hN:wE N n=N:=by unfold wE;rw[ay hin]
  have hP:Path A N (cs++[c]) (ws++[sQ N n]) (sQ N n):= .snoc p (by omega) i1 (by rw[i2,e]) k4 k5
  rw[hA,hN]
  refine⟨I,hP,by rw[zI i2];exact m1,⟨λ_=>⟨_,_,hP⟩,λ_=>hin⟩,λ_=>⟨rfl,rfl,i1⟩,λq=>absurd hin q⟩
 ·have hi:=Xk hin
  have hN:wE N n=N++[n]:=by unfold wE;rw[ah hin]
  have e1:wd (N++[n]) u=wd N u:=Ol hu
  have e2:wd (N++[n]) N.length=w':=by rw[zI (n:=n) (by simp)];exact m1
  have hP:Path (qJ A c) (N++[n]) (cs++[c]) (ws++[N.length]) N.length:=by
   rw[hB]at hs hn ⊢
   refine .snoc p.app hu (by simp) ?_ (by rw[e1,e2];exact hc) hs
   rw[e1,<-hn];simp
  rw[hN,hi]
  refine⟨⟨?_,aeh I.ad,?_,λi h=> ?_⟩,hP,e2,⟨λq=>absurd q hin,fun⟨vs,j,q⟩=> ?_⟩,λq=>absurd q hin,λ_=>⟨rfl,rfl⟩⟩
  ·rw[fB]
   exact⟨I.nd,by simp,λa ha b hb e=>hin (by rw[<-bJ.1 hb,<-e];exact ha)⟩
  ·rw[bi h0];exact I.rt
  ·rw[aN,bz]at h
   by_cases hi':i<N.length
   ·obtain⟨ds,vs,q,q1⟩:=I.all i hi'
    exact⟨ds,vs,by rw[hB];exact q.app,q1⟩
   ·have:i=N.length:=by omega
    subst this
    exact⟨_,_,hP,by rw[aN,bz];omega,hp⟩
  ·rcases q.fst with⟨-,e,-⟩|⟨-,cs',ws',v,d,e,rfl,q',k1,k2,k3,k4,k5⟩
   ·simp at e
   obtain⟨e1,e2⟩:=gD e rfl
   simp only[aG,aP]at e2
   subst e1 e2
   obtain⟨rfl,rfl⟩:=p.one I.nd q'
   have hA:qJ A c=A:=ay k5
   rw[hA]at hn
   rw[hn]
   exact aI k3
def pM(R:List (List oU))(cs:List oU)(k:Nat):Bool:=R.all λr=> !(decide (k<=r.length) && decide (r.take k=cs.take k))
def JM(R:List (List oU))(cs:List oU):Nat:=((List.range cs.length).filter λk=>pM R cs (k+1)).length
def wG(P:List (List oU)):List (List oU)->Nat
 |[]=>0
 |r::R=>JM P r+wG (P++[r]) R
theorem Eh{r:List oU}: ∀{R P:List (List oU)},wG P (R++[r])=wG P R+JM (P++R) r
 |[],P=>by simp [wG]
 |x::R,P=>by rw[bO,wG,wG,Eh,bB];simp [dY]
theorem LC{R:List (List oU)}{cs:List oU}{c:oU}:JM R (cs++[c])=JM R cs+if pM R (cs++[c]) (cs.length+1)=true then 1 else 0:=by
 unfold JM
 rw[aN,bz,List.range_succ,fe,aN]
 have e:(List.range cs.length).filter (λk=>pM R (cs++[c]) (k+1))=(List.range cs.length).filter λk=>pM R cs (k+1):=by
  refine List.filter_congr λk hk=> ?_
  have:k+1<=cs.length:=by have:=fF.1 hk;omega
  unfold pM
  rw[dH this]
 rw[e]
 simp only[eG,iU]
 split<;>simp
def yg(a:Nat):Nat->List lG->Option Nat
 |x,[]=>some x
 |x,n::N=>if n.1=1\/n.1=3 then(if n.2.2.1<0\/(x:Int)<n.2.2.1\/(a:Int)<=n.2.2.1 then none else yg a (if n.2.2.1=(x:Int)then x+1 else x) N)else yg a x N
theorem Jf{a:Nat}: ∀{N M:List lG} {x y:Nat},yg a x N=some y->yg a x (N++M)=yg a y M
 |[],M,x,y,h=>by cases h;rfl
 |n::N,M,x,y,h=>by
  rw[bO,yg]
  rw[yg]at h
  split
  ·rename_i q
   rw[ay q]at h
   split
   ·rename_i q2;rw[ay q2]at h;cases h
   ·rename_i q2;rw[ah q2]at h;exact Jf h
  ·rename_i q;rw[ah q]at h;exact Jf h
theorem Om{a b:Nat}(hab:a<=b): ∀{N:List lG} {x y:Nat},yg a x N=some y->yg b x N=some y
 |[],x,y,h=>h
 |n::N,x,y,h=>by
  rw[yg]at h ⊢
  split
  ·rename_i q
   rw[ay q]at h
   split at h
   ·cases h
   ·rename_i q2;rw[ah (by omega)];exact Om hab h
  ·rename_i q;rw[ah q]at h;exact Om hab h
def yC:Nat->List Nat->Option Nat
 |x,[]=>some x
 |x,n::l=>if x<n then none else yC (if n=x then x+1 else x) l
theorem Ei{n:Nat}: ∀{l:List Nat} {x y:Nat},yC x l=some y->n<=y->yC x (l++[n])=some (if n=y then y+1 else y)
 |[],x,y,h,hn=>by cases h;rw[bI,yC,ah (by omega)];rfl
 |m::l,x,y,h,hn=>by
  rw[bO,yC]
  rw[yC]at h
  split at h
  ·cases h
  ·rename_i q;rw[ah q];exact Ei h hn
def tF:Nat->List (List Nat)->Option Nat
 |x,[]=>some x
 |x,w::W=>match yC x w with|some y=>tF y W|none=>none
theorem EQ{w:List Nat}: ∀{W:List (List Nat)} {x y:Nat},tF x W=some y->tF x (W++[w])=yC y w
 |[],x,y,h=>by cases h;rw[bI,tF];cases yC x w<;>rfl
 |v::W,x,y,h=>by
  rw[bO,tF]
  rw[tF]at h
  cases hv:yC x v with
  |none=>rw[hv]at h;cases h
  |some z=>rw[hv]at h;exact EQ h
structure yD (R:List (List oU)) (W:List (List Nat)) (E:List Nat) (cs:List oU) (ws:List Nat) (u:Nat) (A:List lY) (N:List lG):Prop where
 inv:Sl A N
 el:E.length=R.length
 wl:W.length=R.length
 done: ∀(j:Nat) (r:List oU),R[j]? =some r-> ∃ws e,W[j]? =some ws/\E[j]? =some e/\Path A N r ws e
 way:Path A N cs ws u
 cnt:N.length=1+wG [] R+JM R cs
 cov: ∀i,i<N.length-> ∃r,(r∈R\/r=cs)/\ ∃k vs,Path A N (r.take k) vs i
 use:yg A.length 0 N=some A.length
 shp: ∀s∈A,∃p,sN p/\s=lJ p
 wid: ∀i,i<N.length->0<=wd N i/\wd N i<=16
 fin: ∃x,tF 1 W=some x/\yC x ws=some N.length
theorem yD.nil:yD [] [] [] [] [] 0 [] [mR]:=by
 refine⟨⟨by simp,by simp,rfl,λi h=> ?_⟩,rfl,rfl,λj r h=>by simp at h,.nil,rfl,λi h=> ?_,rfl,λs h=>by simp at h,λi h=> ?_,1,rfl,rfl⟩
 all_goals
  have:i=0:=by simp at h;omega
  subst this
 ·exact⟨[],[],.nil,by simp,by simp⟩
 ·exact⟨[],.inr rfl,0,[],.nil⟩
 ·exact⟨by decide,by decide⟩
theorem yD.step{R:List (List oU)}{cs:List oU}{u:Nat}{A:List lY}{N:List lG}(P:yD R W E cs ws u A N){c:oU}(hc:vO (wd N u) w' c)(hw:0<=w'/\w'<=16)(hl:cs.length<16)(hp:(cs++[c]).Pairwise λa b=>a.1<=b.1)(n:lG)(hn:n=vC (qJ A c) u (wd N u) c):
  yD R W E (cs++[c]) (ws++[sQ N n]) (sQ N n) (qJ A c) (wE N n)/\wd (wE N n) (sQ N n)=w':=by
 obtain⟨I,pt,hwd,hiff,hyes,hno⟩:=aei P.inv P.way hc hl hp n hn
 obtain⟨x,Df,Tc⟩:=P.fin
 obtain⟨hs,B,hB⟩:=Xl A c
 have hfirst:n∈N↔pM R (cs++[c]) (cs.length+1)≠true:=by
  rw[hiff]
  have e:(cs++[c]).take (cs.length+1)=cs++[c]:=aK (by simp)
  have key:pM R (cs++[c]) (cs.length+1)≠true↔ ∃r∈R,cs.length+1<=r.length/\r.take (cs.length+1)=cs++[c]:=by
   unfold pM
   rw[e]
   simp only[ne_eq,bU,Bool.not_eq_true',Bool.and_eq_false_imp,bf,decide_eq_false_iff_not,Classical.not_forall,Decidable.not_not]
   constructor
   ·rintro ⟨r,h1,h2,h3⟩;exact⟨r,h1,h2,h3⟩
   ·rintro ⟨r,h1,h2,h3⟩;exact⟨r,h1,h2,h3⟩
  rw[key]
  constructor
  ·rintro ⟨vs,j,q⟩
   have h0:0<N.length:=by
    have:=P.cnt;omega
   obtain⟨r,hr,k,vs',q'⟩:=P.cov j (q.lt h0)
   obtain⟨e1,-⟩:=q.same q'
   have el:=bL List.length e1
   rw[aN,bz,aT]at el
   rcases hr with hr|rfl
   ·refine⟨r,hr,by omega,?_⟩
    by_cases hk:k<=r.length
    ·rw[show cs.length+1=k by omega];exact e1.symm
    ·rw[aK (by omega)];rw[aK (by omega)]at e1;exact e1.symm
   ·omega
  ·rintro ⟨r,hr,h1,h2⟩
   obtain⟨j,hj⟩:=dW hr
   obtain⟨v,e,-,-,q⟩:=P.done j r hj
   obtain⟨i,q1,-⟩:=q.take (cs.length+1) h1
   rw[h2]at q1
   exact⟨_,_,q1⟩
 by_cases hin:n∈N
 ·obtain⟨e1,e2,e3⟩:=hyes hin
  simp only[e1,e2]at pt I hwd ⊢
  have hf: ¬pM R (cs++[c]) (cs.length+1)=true:=hfirst.1 hin
  refine⟨⟨I,P.el,P.wl,P.done,pt,?_,λi hi=> ?_,P.use,P.shp,P.wid,x,Df,?_⟩,hwd⟩
  ·rw[LC,ah hf];exact P.cnt
  ·obtain⟨r,hr,k,vs,q⟩:=P.cov i hi
   rcases hr with hr|rfl
   ·exact⟨r,.inl hr,k,vs,q⟩
   ·obtain⟨k',hk'⟩: ∃k',k'<=r.length/\r.take k'=r.take k:=by
     by_cases hk:k<=r.length
     ·exact⟨k,hk,rfl⟩
     ·exact⟨r.length,aH _,by rw[aK (aH _),aK (by omega)]⟩
    refine⟨r++[c],.inr rfl,k',vs,?_⟩
    rw[dH hk'.1,hk'.2];exact q
  ·rw[Ei Tc (by omega),ah (by omega)]
 ·obtain⟨e1,e2⟩:=hno hin
  have hf:pM R (cs++[c]) (cs.length+1)=true:=by
   apply bR;intro q;exact hin (hfirst.2 q)
  simp only[e1,e2]at pt I hwd ⊢
  refine⟨⟨I,P.el,P.wl,λj r hj=> ?_,pt,?_,λi hi=> ?_,?_,λs hs'=> ?_,λi hi=> ?_,x,Df,?_⟩,hwd⟩
  ·obtain⟨v,e,q1,q2,q3⟩:=P.done j r hj
   exact⟨v,e,q1,q2,by rw[hB];exact q3.app⟩
  ·rw[LC,ay hf,aN,bz,P.cnt];omega
  ·rw[aN,bz]at hi
   by_cases hi':i<N.length
   ·obtain⟨r,hr,k,vs,q⟩:=P.cov i hi'
    rcases hr with hr|rfl
    ·exact⟨r,.inl hr,k,vs,by rw[hB];exact q.app⟩
    ·obtain⟨k',hk'⟩: ∃k',k'<=r.length/\r.take k'=r.take k:=by
      by_cases hk:k<=r.length
      ·exact⟨k,hk,rfl⟩
      ·exact⟨r.length,aH _,by rw[aK (aH _),aK (by omega)]⟩
     refine⟨r++[c],.inr rfl,k',vs,?_⟩
     rw[dH hk'.1,hk'.2,hB];exact q.app
   ·have:i=N.length:=by omega
    subst this
    refine⟨cs++[c],.inr rfl,cs.length+1,ws++[N.length],?_⟩
    rw[aK (by simp)];exact pt
  ·rw[Jf (Om (by rw[hB,aN];omega) P.use),yg]
   have mk:=Fu (A:=qJ A c) (u:=u) (w:=wd N u) (c:=c)
   rw[<-hn]at mk
   split
   ·rename_i q
    have h2:c.1≠2:=by omega
    have ha:n.2.2.1=(ut (qJ A c) (lJ c.2.1):Int):=by rw[hn];unfold vC;rw[ah h2]
    have hm:=ug (hs.resolve_left h2)
    by_cases hsh:lJ c.2.1∈A
    ·have hA:qJ A c=A:=by unfold qJ;rw[ay (.inr hsh)]
     have:=(ug hsh).1
     rw[hA]at ha ⊢
     rw[ah (by omega),ah (by omega)];rfl
    ·have hA:qJ A c=A++[lJ c.2.1]:=by unfold qJ;rw[ah (by rintro (q|q);exact h2 q;exact hsh q)]
     have hm':ut (qJ A c) (lJ c.2.1)=A.length:=by
      rw[hA]
      unfold ut
      rw[eF,ah]
      ·simp
      ·intro q
       obtain⟨y,hy,hy2⟩:=fZ.1 q
       simp only[bf]at hy2
       exact hsh (hy2▸hy)
     rw[hm']at ha
     rw[ah (by rw[hA,aN,bz];omega),ay ha,hA,aN,bz];rfl
   ·rename_i q
    have h2:c.1=2:=by rcases hc with⟨q1|q1,-⟩|⟨q1,-⟩<;>omega
    have hA:qJ A c=A:=ay (.inl h2)
    rw[hA];rfl
  ·unfold qJ at hs'
   split at hs'
   ·exact P.shp s hs'
   ·rename_i q
    rcases bG.1 hs' with q1|q1
    ·exact P.shp s q1
    ·refine⟨c.2.1,?_,bJ.1 q1⟩
     rcases hc with q2|q2
     ·exact q2.2.2.1
     ·exact absurd (.inl q2.1) q
  ·rw[aN,bz]at hi
   by_cases hi':i<N.length
   ·rw[Ol hi'];exact P.wid i hi'
   ·have:i=N.length:=by omega
    rw[this,hwd];exact hw
  ·rw[Ei Tc (by omega),ay rfl,aN,bz]
theorem yD.next{R:List (List oU)}{cs:List oU}{u:Nat}{A:List lY}{N:List lG}(P:yD R W E cs ws u A N):yD (R++[cs]) (W++[ws]) (E++[u]) [] [] 0 A N:=by
 obtain⟨x,Df,Tc⟩:=P.fin
 refine⟨P.inv,by simp [P.el],by simp [P.wl],λj r hj=> ?_,.nil,?_,λi hi=> ?_,P.use,P.shp,P.wid,N.length,by rw[EQ Df,Tc],rfl⟩
 ·by_cases hj':j<R.length
  ·rw[bi hj']at hj
   obtain⟨v,e,q1,q2,q3⟩:=P.done j r hj
   exact⟨v,e,by rw[bi (by rw[P.wl];exact hj')];exact q1,by rw[bi (by rw[P.el];exact hj')];exact q2,q3⟩
  ·have hj2:j=R.length:=by
    have:=(aJ.1 hj).1
    simp at this;omega
   subst hj2
   simp at hj
   subst hj
   exact⟨ws,u,by rw[<-P.wl];simp,by rw[<-P.el];simp,P.way⟩
 ·rw[Eh]
  have:=P.cnt
  simp only[bI]
  have e:JM (R++[cs]) []=0:=rfl
  omega
 ·obtain⟨r,hr,k,vs,q⟩:=P.cov i hi
  refine⟨r,.inl ?_,k,vs,q⟩
  rcases hr with hr|rfl
  ·exact di _ hr
  ·simp
end Edict
namespace Edict
variable {p:List kX} {c:kX} {k:Nat} {t:ll}
/-! ### What hangs on what -/
abbrev Nm:=List UInt8
def Dep(p:List kX)(a b:Nm):Prop:= ∃c∈p,c.1.1=a/\ ∃l∈c.2,l.1≠3/\l.2.1.1=b
inductive Hang (p:List kX) (a:Nm):Nm->Prop
 |refl:Hang p a a
 |step {b c:Nm}:Hang p a b->Dep p b c->Hang p a c
theorem Hang.head{a b c:Nm}(d:Dep p a b)(h:Hang p b c):Hang p a c:=by
 induction h with
 |refl=>exact .step .refl d
 |step _ d' ih=>exact .step ih d'
def BI(p:List kX):Prop:= ∀c∈p,∀l∈c.2,l.1=2-> ¬Hang p l.2.1.1 c.1.1
theorem Sc{S:List Nm}{a:Nm}(ha:a∈S)(h: ∀x∈S,∀y,Dep p x y->y∈S){b:Nm}(hb:Hang p a b):b∈S:=by
 induction hb with
 |refl=>exact ha
 |step _ d ih=>exact h _ ih _ d
theorem CS: ∀{l m:List Nm},l.Nodup->(∀x∈l,x∈m)->l.length<=m.length
 |[],m,_,_=>az _
 |x::l,m,hn,h=>by
  have hx:=h x (by simp)
  have h1:=(iT.1 hn)
  have:=CS (l:=l) (m:=m.erase x) h1.2 (λy hy=>(List.mem_erase_of_ne (by rintro rfl;exact h1.1 hy)).2 (h y (by simp [hy])))
  rw[List.length_erase_of_mem hx]at this
  have:0<m.length:=List.length_pos_of_mem hx
  simp only[aM]
  omega
inductive NW (p:List kX):Nat->Nm->Prop
 |zero (x:Nm):NW p 0 x
 |pos {k:Nat} {c:kX} {l:lV}:c∈p->l∈c.2->l.1=1->NW p k l.2.1.1->NW p k c.1.1
 |neg {k:Nat} {c:kX} {l:lV}:c∈p->l∈c.2->l.1=2->NW p k l.2.1.1->NW p (k+1) c.1.1
theorem NW.list(hn:BI p){x:Nm}(h:NW p k x): ∃l:List Nm,l.length=k/\l.Nodup/\ ∀y∈l,Hang p x y/\ ∃c∈p,c.1.1=y:=by
 induction h with
 |zero x=>exact⟨[],rfl,by simp,λy q=>by cases q⟩
 | @pos k c l hc hl h1 _ ih=>
  obtain⟨m,m1,m2,m3⟩:=ih
  exact⟨m,m1,m2,λy hy=>⟨.head ⟨c,hc,rfl,l,hl,by omega,rfl⟩ (m3 y hy).1,(m3 y hy).2⟩⟩
 | @neg k c l hc hl h1 _ ih=>
  obtain⟨m,m1,m2,m3⟩:=ih
  refine⟨c.1.1::m,by simp [m1],iT.2 ⟨λq=>hn c hc l hl h1 (m3 _ q).1,m2⟩,λy hy=> ?_⟩
  rcases bn.1 hy with rfl|hy
  ·exact⟨.refl,c,hc,rfl⟩
  ·exact⟨.head ⟨c,hc,rfl,l,hl,by omega,rfl⟩ (m3 y hy).1,(m3 y hy).2⟩
theorem NW.le(hn:BI p){S:List Nm}(hS: ∀c∈p,c.1.1∈S){x:Nm}(h:NW p k x):k<=S.length:=by
 obtain⟨l,h1,h2,h3⟩:=h.list hn
 rw[<-h1]
 refine CS h2 λy hy=> ?_
 obtain⟨c,hc,rfl⟩:=(h3 y hy).2
 exact hS c hc
/-! ### Where a name stands; clauses in order -/
def rU(l:List Nm)(x:Nm):Int:=if x∈l then(l.findIdx λy=>decide (y=x):Nat)else -1
theorem oN{l:List Nm}{x:Nm}(h:x∈l): ∃i:Nat,rU l x=i/\i<l.length/\l[i]? =some x:=by
 have:(l.findIdx λy=>decide (y=x))<l.length:=dD ⟨x,h,by simp⟩
 refine⟨_,by unfold rU;rw[ay h],this,?_⟩
 have q:=fE (p:=λy:Nm=>decide (y=x)) (w:=this)
 rw[aL this]
 simpa using q
theorem uW{l:List Nm}{x:Nm}(h:x ∉ l):rU l x= -1:=by unfold rU;rw[ah h]
abbrev sU:=Int×Int×List UInt8
def rH(t:ll):sU:=(t.1,t.2.1,t.2.2.1)
def Fs(l:List sU)(x:sU):Int:=if x∈l then(l.findIdx λy=>decide (y=x):Nat)else -1
def ni{α:Type} [DecidableEq α](l:List α)(x:α):List α:=if x∈l then l else l++[x]
theorem uZ{α:Type} [DecidableEq α]{l:List α}{x:α}:x∈ni l x/\ ∀y∈l,y∈ni l x:=by
 unfold ni
 split
 ·rename_i h;exact⟨h,λy q=>q⟩
 ·exact⟨by simp,λy q=>by simp [q]⟩
def oO(k:Nat):Nm:=[95,32,UInt8.ofNat (97+k)]
def lC:Nat->List Nm->List ll->Nat×List Nm×List ll
 |w,v,[]=>(w,v,[])
 |w,v,t::l=>
  if t.1=4 then
   (if t.2.2.1=[95]then((lC (w+1) (ni v (oO w)) l).1,(lC (w+1) (ni v (oO w)) l).2.1,(t.1,t.2.1,oO w,t.2.2.2)::(lC (w+1) (ni v (oO w)) l).2.2)
    else((lC w (ni v t.2.2.1) l).1,(lC w (ni v t.2.2.1) l).2.1,t::(lC w (ni v t.2.2.1) l).2.2))
  else((lC w v l).1,(lC w v l).2.1,t::(lC w v l).2.2)
def lU:Nat->List Nm->List lV->List Nm×List lH
 |_,v,[]=>(v,[])
 |w,v,l::m=>if l.1=1 then((lU (lC w v l.2.1.2.1).1 (lC w v l.2.1.2.1).2.1 m).1,(l.2.1.1,(lC w v l.2.1.2.1).2.2,0)::(lU (lC w v l.2.1.2.1).1 (lC w v l.2.1.2.1).2.1 m).2)else lU w v m
abbrev Xe:=lH×List lH×List lV×List lH×List Nm×Int
def qP(c:kX):Xe:=(c.1,(lU 0 [] c.2).2,c.2.filter λl=>decide (l.1≠1) && decide (l.1≠2),(c.2.filter λl=>decide (l.1=2)).map λl=>l.2.1,(lU 0 [] c.2).1,c.2.length)
def oq(V:List Nm)(cs:List sU)(t:ll):pW:=if t.1=4 then(true,rU V t.2.2.1)else(false,Fs cs (rH t))
def oP(P:List Nm)(cs:List sU)(V:List Nm)(a:lH):pK:=(rU P a.1,a.2.1.map (oq V cs))
def Oe(cs:List sU)(V:List Nm)(l:lV):vP:=(l.2.2.1,oq V cs l.2.2.2.1,oq V cs l.2.2.2.2.1)
abbrev qW:=pK×List pK×List vP×List pK×List Nm×Int
def wD(v:List Nm):List Nm:=v.map λx=>if 1<x.length/\x.getD 0 0=95/\x.getD 1 0=32 then [95]else x
def ny(P:List Nm)(cs:List sU)(k:Xe):qW:=(oP P cs k.2.2.2.2.1 k.1,k.2.1.map (oP P cs k.2.2.2.2.1),k.2.2.1.map (Oe cs k.2.2.2.2.1),k.2.2.2.1.map (oP P cs k.2.2.2.2.1),wD k.2.2.2.2.1,0)
def kQ(r:qW):List oU:=r.2.1.map (λp=>(1,p,oQ))++(r.2.2.1.map (λt=>(2,zy,t))++r.2.2.2.1.map λp=>(3,p,oQ))
/-! ### What binding tells -/
def BK:List Nm->List ll->List Nm
 |a,[]=>a
 |a,t::l=>if t.1=4 then(if t.2.2.1=[95]\/t.2.2.1 ∉ a then BK (a++[t.2.2.1]) l else BK a l)else BK a l
def mZ(l:lV):List ll:=if l.1=3 then [l.2.2.2.1,l.2.2.2.2.1]else l.2.1.2.1
def sK(b:List lV):List (ll×Bool):=b.flatMap λl=>(mZ l).map λt=>(t,decide (l.1=1))
def qh(c:kX):List (ll×Bool):=c.1.2.1.map (λt=>(t,false))++sK c.2
def uz(c:kX):Prop:=(BK [] ((qh c).map (·.1))).length<=16/\ ∀t,(t,false)∈qh c->t.1=4-> ∃s,(s,true)∈qh c/\s.1=4/\s.2.2.1≠[95]/\s.2.2.1=t.2.2.1
def yf(x:lV):Prop:=x.2.1.2.1.length<=8/\(x.1=1\/x.1=2\/(x.1=3/\1<=x.2.2.1/\x.2.2.1<=6))
def mH(c:kX):Prop:=c.1.2.1.length<=8/\c.2.length<=16/\ ∀l∈c.2,yf l
theorem vB: ∀{l:List ll} {w:Nat} {v:List Nm},∃B,(lC w v l).2.1=v++B
 |[],w,v=>⟨[],by simp [lC]⟩
 |t::l,w,v=>by
  have k: ∀x:Nm,∃B,ni v x=v++B:=λx=>by unfold ni;split;exact⟨[],by simp⟩;exact⟨[x],rfl⟩
  unfold lC
  split
  ·split
   ·obtain⟨B,h⟩:=k (oO w);obtain⟨C,h2⟩:=vB (l:=l) (w:=w+1) (v:=ni v (oO w));exact⟨B++C,by simp only;rw[h2,h,bB]⟩
   ·obtain⟨B,h⟩:=k t.2.2.1;obtain⟨C,h2⟩:=vB (l:=l) (w:=w) (v:=ni v t.2.2.1);exact⟨B++C,by simp only;rw[h2,h,bB]⟩
  ·exact vB (l:=l)
theorem xy: ∀{m:List lV} {w:Nat} {v:List Nm},∃B,(lU w v m).1=v++B
 |[],w,v=>⟨[],by simp [lU]⟩
 |l::m,w,v=>by
  unfold lU
  split
  ·obtain⟨B,h⟩:=vB (l:=l.2.1.2.1) (w:=w) (v:=v);obtain⟨C,h2⟩:=xy (m:=m) (w:=(lC w v l.2.1.2.1).1) (v:=(lC w v l.2.1.2.1).2.1);exact⟨B++C,by simp only;rw[h2,h,bB]⟩
  ·exact xy
theorem aca{v B:List Nm}{x:Nm}(h:x∈v):rU (v++B) x=rU v x:=by
 have:(v.findIdx λy=>decide (y=x))<v.length:=dD ⟨x,h,by simp⟩
 unfold rU
 rw[ay h,ay (di _ h),eF,ay this]
theorem acb{v B:List Nm}{x:Nm}(h:x ∉ v):rU (v++([x]++B)) x=v.length:=by
 unfold rU
 rw[ay (by simp),eF,ah]
 ·simp [List.findIdx_cons]
 ·intro q
  obtain⟨y,hy,hy2⟩:=fZ.1 q
  simp only[bf]at hy2
  exact h (hy2▸hy)
theorem Ee{cs:List sU}: ∀{l:List ll} {w:Nat} {v C:List Nm},vg v.length ((lC w v l).2.2.map (oq ((lC w v l).2.1++C) cs))=some ((lC w v l).2.1.length:Int)/\ ∀t∈(lC w v l).2.2,t.1=4->t.2.2.1∈(lC w v l).2.1
 |[],w,v,C=>⟨rfl,λt q=>by cases q⟩
 |t::l,w,v,C=>by
  have key: ∀(w':Nat) (t':ll) (x:Nm),t'.1=4->t'.2.2.1=x->vg v.length ((t'::(lC w' (ni v x) l).2.2).map (oq ((lC w' (ni v x) l).2.1++C) cs))=some ((lC w' (ni v x) l).2.1.length:Int)/\ ∀s∈t'::(lC w' (ni v x) l).2.2,s.1=4->s.2.2.1∈(lC w' (ni v x) l).2.1:=by
   intro w' t' x h1 h2
   obtain⟨a,b⟩:=Ee (cs:=cs) (l:=l) (w:=w') (v:=ni v x) (C:=C)
   obtain⟨B,hB⟩:=vB (l:=l) (w:=w') (v:=ni v x)
   refine⟨?_,λs q hs=> ?_⟩
   ·rw[bF,vg]
    have es:oq ((lC w' (ni v x) l).2.1++C) cs t'=(true,rU ((lC w' (ni v x) l).2.1++C) x):=by unfold oq;rw[ay h1,h2]
    rw[es]
    by_cases hx:x∈v
    ·have ea:ni v x=v:=ay hx
     have en:rU ((lC w' (ni v x) l).2.1++C) x=rU v x:=by rw[hB,ea,bB];exact aca hx
     obtain⟨i,i1,i2,-⟩:=oN hx
     rw[en,i1]
     simp only[dN]
     rw[ah (by omega),ah (by omega)]
     rw[ea]at a ⊢
     exact a
    ·have ea:ni v x=v++[x]:=ah hx
     have en:rU ((lC w' (ni v x) l).2.1++C) x=v.length:=by rw[hB,ea,bB,bB];exact acb hx
     rw[en]
     simp only[dN]
     rw[ah (by omega),ay trivial]
     rw[ea]at a ⊢
     rw[aN,bz]at a
     exact a
   ·rcases bn.1 q with rfl|q
    ·rw[h2,hB];exact di _ uZ.1
    ·exact b s q hs
  unfold lC
  split
  ·rename_i h4
   split
   ·exact key (w+1) _ (oO w) h4 rfl
   ·exact key w t _ h4 rfl
  ·rename_i h4
   obtain⟨a,b⟩:=Ee (cs:=cs) (l:=l) (w:=w) (v:=v) (C:=C)
   refine⟨?_,λs q hs=> ?_⟩
   ·rw[bF,vg]
    have es:oq ((lC w v l).2.1++C) cs t=(false,Fs cs (rH t)):=ah h4
    rw[es]
    simpa using a
   ·rcases bn.1 q with rfl|q
    ·exact absurd hs h4
    ·exact b s q hs
inductive Chn:Int->List oU->Int->Prop
 |nil {w:Int}:Chn w [] w
 |cons {w x w':Int} {c:oU} {l:List oU}:vO w x c->0<=x->x<=16->Chn x l w'->Chn w (c::l) w'
theorem Chn.app{w x w':Int}{l m:List oU}(h:Chn w l x)(k:Chn x m w'):Chn w (l++m) w':=by
 induction h with
 |nil=>exact k
 |cons h1 h2 h3 _ ih=>exact .cons h1 h2 h3 (ih k)
theorem xz: ∀{l:List ll} {w:Nat} {v:List Nm},(lC w v l).2.2.length=l.length
 |[],w,v=>rfl
 |t::l,w,v=>by
  unfold lC
  split
  ·split<;>simp [xz (l:=l)]
  ·simp [xz (l:=l)]
theorem Ef{P:List Nm}{cs:List sU}(V:List Nm)(hV:V.length<=16): ∀{m:List lV} {w:Nat} {v:List Nm},(lU w v m).1=V->(∀l∈m,l.1=1->l.2.1.2.1.length<=8/\l.2.1.1∈P)->(∀a∈(lU w v m).2,∀t∈a.2.1,t.1≠4->rH t∈cs)->
  Chn v.length (((lU w v m).2.map (oP P cs V)).map λp=>(1,p,oQ)) V.length
 |[],w,v,hv,_,_=>by
  have:v=V:=hv
  rw[this];exact .nil
 |l::m,w,v,hv,h1,h2=>by
  have h1': ∀x∈m,x.1=1->x.2.1.2.1.length<=8/\x.2.1.1∈P:=λx q=>h1 x (dI _ q)
  unfold lU at hv h2 ⊢
  split at hv
  ·rename_i hl
   rw[ay hl]at h2 ⊢
   simp only at hv h2 ⊢
   obtain⟨C,hC⟩:=xy (m:=m) (w:=(lC w v l.2.1.2.1).1) (v:=(lC w v l.2.1.2.1).2.1)
   rw[hv]at hC
   obtain⟨a,b⟩:=Ee (cs:=cs) (l:=l.2.1.2.1) (w:=w) (v:=v) (C:=C)
   rw[<-hC]at a
   have hle:(lC w v l.2.1.2.1).2.1.length<=16:=by rw[hC,aN]at hV;omega
   refine .cons (.inl ⟨.inl rfl,rfl,⟨?_,?_,λs hs=> ?_⟩,a⟩) (by omega) (by omega) (Ef V hV hv h1' λx q=>h2 x (dI _ q))
   ·obtain⟨i,q,-⟩:=oN (h1 l (by simp) hl).2
    simp only[oP];omega
   ·simp only[oP,aQ,xz];exact(h1 l (by simp) hl).1
   ·simp only[oP]at hs
    obtain⟨t,ht,rfl⟩:=bq.1 hs
    unfold oq
    split
    ·rename_i h4
     obtain⟨i,q,-⟩:=oN (l:=V) (x:=t.2.2.1) (by rw[hC];exact di _ (b t ht h4))
     simp only;omega
    ·rename_i h4
     have:=h2 _ (List.mem_cons_self) t ht h4
     simp only[Fs]
     rw[ay this];omega
  ·rename_i hl
   rw[ah hl]at h2 ⊢
   exact Ef V hV hv h1' h2
theorem Xf{w:Int}: ∀{l:List pW},(∀s∈l,s.1=true->s.2<w)->vg w l=some w
 |[],_=>rfl
 |s::l,h=>by
  rw[vg]
  have hs:=h s (by simp)
  rw[ah (λq=>by have:=hs q.1;omega),ah (λq=>by have:=hs q.1;omega)]
  exact Xf λt q=>h t (by simp [q])
theorem Og{V:List Nm}{cs:List sU}(hv:t.1=4->t.2.2.1∈V)(hc:t.1≠4->rH t∈cs):rA (oq V cs t) V.length:=by
 unfold oq rA
 split
 ·rename_i h
  obtain⟨i,q1,q2,-⟩:=oN (hv h)
  simp only;omega
 ·rename_i h
  refine⟨?_,λq=>by simp at q⟩
  simp only[Fs]
  rw[ay (hc h)];omega
theorem Oh{w:Int}(h0:0<=w)(h1:w<=16): ∀{l:List oU},(∀c∈l,vO w w c)->Chn w l w
 |[],_=> .nil
 |c::l,h=> .cons (h c (by simp)) h0 h1 (Oh h0 h1 λx q=>h x (by simp [q]))
/-! #### How many variables -/
theorem Xg{α:Type} [DecidableEq α]{l:List α}{x:α}(h:l.Nodup):(ni l x).Nodup:=by
 unfold ni
 split
 ·exact h
 ·rename_i q
  rw[fB]
  exact⟨h,by simp,λa ha b hb e=>q (by rw[<-bJ.1 hb,<-e];exact ha)⟩
theorem Xh{α:Type} [DecidableEq α]{l:List α}{x y:α}(h:y∈ni l x):y∈l\/y=x:=by
 unfold ni at h
 split at h
 ·exact .inl h
 ·simpa using h
def ng(l:List ll):Nat:=(l.filter λt=>decide (t.1=4) && decide (t.2.2.1=[95])).length
theorem xA: ∀{l:List ll} {w:Nat} {v:List Nm},v.Nodup->(lC w v l).2.1.Nodup/\(lC w v l).1=w+ng l/\ ∀x∈(lC w v l).2.1,x∈v\/(∃k,w<=k/\k<w+ng l/\x=oO k)\/ ∃t∈l,t.1=4/\t.2.2.1≠[95]/\t.2.2.1=x
 |[],w,v,h=>⟨h,by simp [lC,ng],λx q=> .inl q⟩
 |t::l,w,v,h=>by
  unfold lC
  split
  ·rename_i h4
   split
   ·rename_i hw
    have e:ng (t::l)=ng l+1:=by unfold ng;rw[dF (by simp [h4,hw]),aM]
    obtain⟨a,b,c⟩:=xA (l:=l) (w:=w+1) (v:=ni v (oO w)) (Xg h)
    refine⟨a,by simp only;rw[b,e];omega,λx q=> ?_⟩
    rcases c x q with q|⟨k,k1,k2,k3⟩|⟨s,s1,s2⟩
    ·rcases Xh q with q|q
     ·exact .inl q
     ·exact .inr (.inl ⟨w,aH _,by omega,q⟩)
    ·exact .inr (.inl ⟨k,by omega,by omega,k3⟩)
    ·exact .inr (.inr ⟨s,by simp [s1],s2⟩)
   ·rename_i hw
    have e:ng (t::l)=ng l:=by unfold ng;rw[cz (by simp [hw])]
    obtain⟨a,b,c⟩:=xA (l:=l) (w:=w) (v:=ni v t.2.2.1) (Xg h)
    rw[e]
    refine⟨a,b,λx q=> ?_⟩
    rcases c x q with q|q|⟨s,s1,s2⟩
    ·rcases Xh q with q|q
     ·exact .inl q
     ·exact .inr (.inr ⟨t,by simp,h4,hw,q.symm⟩)
    ·exact .inr (.inl q)
    ·exact .inr (.inr ⟨s,by simp [s1],s2⟩)
  ·rename_i h4
   have e:ng (t::l)=ng l:=by unfold ng;rw[cz (by simp [h4])]
   obtain⟨a,b,c⟩:=xA (l:=l) (w:=w) (v:=v) h
   rw[e]
   refine⟨a,b,λx q=> ?_⟩
   rcases c x q with q|q|⟨s,s1,s2⟩
   ·exact .inl q
   ·exact .inr (.inl q)
   ·exact .inr (.inr ⟨s,by simp [s1],s2⟩)
def pg(m:List lV):List ll:=(m.filter λl=>decide (l.1=1)).flatMap λl=>l.2.1.2.1
theorem rQ{a b:List ll}:ng (a++b)=ng a+ng b:=by simp [ng]
theorem CU: ∀{m:List lV} {w:Nat} {v:List Nm},v.Nodup->(lU w v m).1.Nodup/\ ∀x∈(lU w v m).1,x∈v\/(∃k,w<=k/\k<w+ng (pg m)/\x=oO k)\/ ∃t∈pg m,t.1=4/\t.2.2.1≠[95]/\t.2.2.1=x
 |[],w,v,h=>⟨h,λx q=> .inl q⟩
 |l::m,w,v,h=>by
  unfold lU
  split
  ·rename_i hl
   have e:pg (l::m)=l.2.1.2.1++pg m:=by unfold pg;rw[dF (by simp [hl]),dQ]
   rw[e,rQ]
   obtain⟨a,b,c⟩:=xA (l:=l.2.1.2.1) (w:=w) h
   obtain⟨a2,c2⟩:=CU (m:=m) (w:=(lC w v l.2.1.2.1).1) a
   refine⟨a2,λx q=> ?_⟩
   rcases c2 x q with q|⟨k,k1,k2,k3⟩|⟨s,s1,s2⟩
   ·rcases c x q with q|⟨k,k1,k2,k3⟩|⟨s,s1,s2⟩
    ·exact .inl q
    ·exact .inr (.inl ⟨k,k1,by omega,k3⟩)
    ·exact .inr (.inr ⟨s,by simp [s1],s2⟩)
   ·exact .inr (.inl ⟨k,by omega,by omega,k3⟩)
   ·exact .inr (.inr ⟨s,by simp [s1],s2⟩)
  ·rename_i hl
   have e:pg (l::m)=pg m:=by unfold pg;rw[cz (by simp [hl])]
   rw[e]
   exact CU h
theorem CV: ∀{l:List ll} {a:List Nm},(∀x∈a,x∈BK a l)/\(∀t∈l,t.1=4->t.2.2.1∈BK a l)/\(BK a l).count [95]=a.count [95]+ng l
 |[],a=>⟨λx q=>q,λt q=>(by cases q),by simp [BK,ng]⟩
 |t::l,a=>by
  unfold BK
  split
  ·rename_i h4
   split
   ·rename_i hw
    obtain⟨q1,q2,q3⟩:=CV (l:=l) (a:=a++[t.2.2.1])
    refine⟨λx q=>q1 x (by simp [q]),λs q hs=> ?_,?_⟩
    ·rcases bn.1 q with rfl|q
     ·exact q1 _ (by simp)
     ·exact q2 s q hs
    ·rw[q3,List.count_append]
     unfold ng
     by_cases he:t.2.2.1=[95]
     ·rw[dF (by simp [h4,he]),aM,he,List.count_singleton_self];omega
     ·rw[cz (by simp [he]),List.count_eq_zero_of_not_mem (l:=[t.2.2.1]) (by simp;exact λq=>he q.symm)];rfl
   ·rename_i hw
    have hw1:t.2.2.1≠[95]:=λq=>hw (.inl q)
    have hw2:t.2.2.1∈a:=bR λq=>hw (.inr q)
    obtain⟨q1,q2,q3⟩:=CV (l:=l) (a:=a)
    refine⟨q1,λs q hs=> ?_,?_⟩
    ·rcases bn.1 q with rfl|q
     ·exact q1 _ hw2
     ·exact q2 s q hs
    ·rw[q3];unfold ng;rw[cz (by simp [hw1])]
  ·rename_i h4
   obtain⟨q1,q2,q3⟩:=CV (l:=l) (a:=a)
   refine⟨q1,λs q hs=> ?_,?_⟩
   ·rcases bn.1 q with rfl|q
    ·exact absurd hs h4
    ·exact q2 s q hs
   ·rw[q3];unfold ng;rw[cz (by simp [h4])]
theorem Lu(m:List lV):ng (pg m)<=ng ((sK m).map (·.1)):=by
 induction m with
 |nil=>exact aH _
 |cons l m ih=>
  have e:(sK (l::m)).map (·.1)=mZ l++(sK m).map (·.1):=by unfold sK;simp [iK]
  rw[e,rQ]
  by_cases hl:l.1=1
  ·have e2:pg (l::m)=l.2.1.2.1++pg m:=by unfold pg;rw[dF (by simp [hl]),dQ]
   have e3:mZ l=l.2.1.2.1:=by unfold mZ;rw[ah (by omega)]
   rw[e2,e3,rQ];omega
  ·have e2:pg (l::m)=pg m:=by unfold pg;rw[cz (by simp [hl])]
   rw[e2];omega
theorem Lx{l:lV}(hl:l∈c.2)(ht:t∈mZ l):(t,decide (l.1=1))∈qh c:=by
 unfold qh sK
 exact jS _ (fM.2 ⟨l,hl,bq.2 ⟨t,ht,rfl⟩⟩)
theorem Xi{m:List lV}:t∈pg m↔ ∃l∈m,l.1=1/\t∈l.2.1.2.1:=by
 unfold pg
 simp only[fM,eB,bf,and_assoc]
theorem FU(h:uz c):(lU 0 [] c.2).1.length<=16:=by
 obtain⟨a,b⟩:=CU (m:=c.2) (w:=0) (v:=[]) (by simp)
 obtain⟨-,q2,q3⟩:=CV (l:=(qh c).map (·.1)) (a:=[])
 obtain⟨L,hL⟩:=kJ (BK [] ((qh c).map (·.1)))
 rw[<-hL]at q2 q3
 have h1:=h.1
 rw[<-hL]at h1
 have hw:ng (pg c.2)<=L.count [95]:=by
  rw[q3]
  have e:(qh c).map (·.1)=c.1.2.1.map (λt=>t)++(sK c.2).map (·.1):=by unfold qh;simp [iK]
  rw[e,rQ]
  have:=Lu c.2
  omega
 have hs: ∀x∈(lU 0 [] c.2).1,x∈(List.range (L.count [95])).map oO++L.filter λx=>decide (x≠[95]):=λx q=>by
  rcases b x q with q|⟨k,-,k2,rfl⟩|⟨t,t1,t2,t3,rfl⟩
  ·cases q
  ·exact di _ (bq.2 ⟨k,fF.2 (by omega),rfl⟩)
  ·obtain⟨l,l1,l2,l3⟩:=Xi.1 t1
   refine jS _ (eB.2 ⟨q2 t ?_ t2,by simp [t3]⟩)
   exact bq.2 ⟨_,Lx l1 (by unfold mZ;rw[ah (by omega)];exact l3),rfl⟩
 have:=CS a hs
 rw[aN,aQ,iI]at this
 have e:L.length=L.count [95]+(L.filter λx=>decide (x≠[95])).length:=by
  rw[List.length_eq_countP_add_countP (p:=λx=>x == [95]),List.count,<-List.countP_eq_length_filter]
  congr 1
  refine List.countP_congr λx _=> ?_
  simp
 omega
theorem Oi: ∀{m:List lV} {w:Nat} {v:List Nm},∀t∈pg m,t.1=4->t.2.2.1≠[95]->t.2.2.1∈(lU w v m).1
 |[],w,v,t,ht,_,_=>by cases ht
 |l::m,w,v,t,ht,h4,h9=>by
  unfold lU
  split
  ·rename_i hl
   have e:pg (l::m)=l.2.1.2.1++pg m:=by unfold pg;rw[dF (by simp [hl]),dQ]
   rw[e]at ht
   rcases bG.1 ht with q|q
   ·obtain⟨B,hB⟩:=xy (m:=m) (w:=(lC w v l.2.1.2.1).1) (v:=(lC w v l.2.1.2.1).2.1)
    simp only
    rw[hB]
    refine di _ ?_
    have key: ∀{l:List ll} {w:Nat} {v:List Nm},t∈l->t.2.2.1∈(lC w v l).2.1:=by
     intro l
     induction l with
     |nil=>intro w v q;cases q
     |cons s l ih=>
      intro w v q
      unfold lC
      rcases bn.1 q with rfl|q
      ·rw[ay h4,ah h9]
       obtain⟨C,hC⟩:=vB (l:=l) (w:=w) (v:=ni v t.2.2.1)
       simp only
       rw[hC]
       exact di _ uZ.1
      ·split
       ·split<;>exact ih q
       ·exact ih q
    exact key q
   ·exact Oi t q h4 h9
  ·rename_i hl
   have e:pg (l::m)=pg m:=by unfold pg;rw[cz (by simp [hl])]
   rw[e]at ht
   exact Oi t ht h4 h9
theorem acd{P:List Nm}{cs:List sU}(hf:mH c)(hb:uz c)(hP: ∀l∈c.2,l.1≠3->l.2.1.1∈P)(hC: ∀l∈c.2,∀t∈mZ l,t.1≠4->rH t∈cs):
  Chn 0 (kQ (ny P cs (qP c))) (lU 0 [] c.2).1.length/\(kQ (ny P cs (qP c))).length<=16/\(kQ (ny P cs (qP c))).Pairwise λa b=>a.1<=b.1:=by
 obtain⟨V,hV⟩:=kJ ((lU 0 [] c.2).1)
 have hlen:=FU hb
 rw[<-hV]at hlen ⊢
 have hvar: ∀l∈c.2,∀t∈mZ l,t.1=4->l.1≠1->t.2.2.1∈V:=λl hl t ht h4 h1=>by
  have hm:=Lx hl ht
  rw[decide_eq_false h1]at hm
  obtain⟨s,s1,s2,s3,s4⟩:=hb.2 t hm h4
  rw[<-s4,hV]
  refine Oi s ?_ s2 s3
  unfold qh sK at s1
  rcases bG.1 s1 with q|q
  ·obtain⟨x,-,e⟩:=bq.1 q;cases e
  ·obtain⟨k,k1,k2⟩:=fM.1 q
   obtain⟨x,x1,e⟩:=bq.1 k2
   simp only[bS,bf]at e
   obtain⟨rfl,e⟩:=e
   refine Xi.2 ⟨k,k1,e,?_⟩
   unfold mZ at x1;rw[ah (by omega)]at x1;exact x1
 have e1:(qP c).2.2.2.2.1=V:=hV.symm
 have lens:(lU 0 [] c.2).2.length+((c.2.filter λl=>decide (l.1≠1) && decide (l.1≠2)).length+(c.2.filter λl=>decide (l.1=2)).length)=c.2.length:=by
  have k: ∀(m:List lV) (w:Nat) (v:List Nm),(lU w v m).2.length+((m.filter λl=>decide (l.1≠1) && decide (l.1≠2)).length+(m.filter λl=>decide (l.1=2)).length)=m.length:=by
   intro m
   induction m with
   |nil=>intro w v;rfl
   |cons l m ih=>
    intro w v
    unfold lU
    by_cases h1:l.1=1
    ·rw[ay h1,cz (by simp [h1]),cz (by simp [h1])]
     have:=ih (lC w v l.2.1.2.1).1 (lC w v l.2.1.2.1).2.1
     simp only[aM];omega
    ·rw[ah h1]
     have:=ih w v
     by_cases h2:l.1=2
     ·rw[cz (by simp [h2]),dF (by simp [h2])];simp only[aM];omega
     ·rw[dF (by simp [h1,h2]),cz (by simp [h2])];simp only[aM];omega
  exact k c.2 0 []
 unfold kQ ny
 simp only[e1]
 refine⟨?_,?_,?_⟩
 ·have a:=Ef (P:=P) (cs:=cs) V hlen (m:=c.2) (w:=0) (v:=[]) hV.symm (λl hl h1=>⟨(hf.2.2 l hl).1,hP l hl (by omega)⟩) ?_
  ·refine Chn.app a (Chn.app (Oh (by omega) (by omega) λx hx=> ?_) (Oh (by omega) (by omega) λx hx=> ?_))
   ·obtain⟨t,ht,rfl⟩:=bq.1 hx
    obtain⟨l,hl,rfl⟩:=bq.1 ht
    have hl':=eB.1 (show l∈c.2.filter λl=>decide (l.1≠1) && decide (l.1≠2)from hl)
    simp only[bA,bf]at hl'
    have h3:l.1=3/\1<=l.2.2.1/\l.2.2.1<=6:=by rcases(hf.2.2 l hl'.1).2 with q|q|q<;>omega
    have ht:mZ l=[l.2.2.2.1,l.2.2.2.2.1]:=ay h3.1
    refine .inr ⟨rfl,rfl,rfl,h3.2.1,h3.2.2,?_,?_⟩
    ·exact Og (λq=>hvar l hl'.1 _ (by rw[ht];simp) q hl'.2.1) (λq=>hC l hl'.1 _ (by rw[ht];simp) q)
    ·exact Og (λq=>hvar l hl'.1 _ (by rw[ht];simp) q hl'.2.1) (λq=>hC l hl'.1 _ (by rw[ht];simp) q)
   ·obtain⟨t,ht,rfl⟩:=bq.1 hx
    obtain⟨b,hb',rfl⟩:=bq.1 ht
    obtain⟨l,hl,rfl⟩:=bq.1 (show b∈(c.2.filter λl=>decide (l.1=2)).map λl=>l.2.1 from hb')
    have hl':=eB.1 hl
    simp only[bf]at hl'
    have ht:mZ l=l.2.1.2.1:=ah (by omega)
    have hs: ∀s∈(oP P cs V l.2.1).2,rA s V.length:=λs hs=>by
     obtain⟨t,ht',rfl⟩:=bq.1 (show s∈l.2.1.2.1.map (oq V cs)from hs)
     rw[<-ht]at ht'
     exact Og (λq=>hvar l hl'.1 _ ht' q (by omega)) (λq=>hC l hl'.1 _ ht' q)
    refine .inl ⟨.inr ⟨rfl,rfl⟩,rfl,⟨?_,?_,λs q=>(hs s q).1⟩,Xf λs q=>(hs s q).2⟩
    ·obtain⟨i,q,-⟩:=oN (hP l hl'.1 (by omega))
     simp only[oP];omega
    ·simp only[oP,aQ];exact(hf.2.2 l hl'.1).1
  ·have k: ∀(m:List lV) (w:Nat) (v:List Nm),(∀l∈m,l∈c.2)-> ∀a∈(lU w v m).2,∀t∈a.2.1,t.1≠4->rH t∈cs:=by
    intro m
    induction m with
    |nil=>intro w v _ a q;cases q
    |cons l m ih=>
     intro w v hm a ha t ht h4
     have hm': ∀x∈m,x∈c.2:=λx q=>hm x (by simp [q])
     unfold lU at ha
     split at ha
     ·rename_i h1
      rcases bn.1 ha with rfl|ha
      ·have kk: ∀(l:List ll) (w:Nat) (v:List Nm),∀t∈(lC w v l).2.2,t.1≠4->t∈l:=by
        intro l
        induction l with
        |nil=>intro w v t q;cases q
        |cons s l ih=>
         intro w v t q h4
         unfold lC at q
         split at q
         ·split at q
          ·rcases bn.1 q with rfl|q
           ·rename_i h5 _;exact absurd h5 h4
           ·exact dI _ (ih _ _ t q h4)
          ·rcases bn.1 q with rfl|q
           ·simp
           ·exact dI _ (ih _ _ t q h4)
         ·rcases bn.1 q with rfl|q
          ·simp
          ·exact dI _ (ih _ _ t q h4)
       refine hC l (hm l (by simp)) t ?_ h4
       unfold mZ;rw[ah (by omega)]
       exact kk _ _ _ t ht h4
      ·exact ih _ _ hm' a ha t ht h4
     ·exact ih _ _ hm' a ha t ht h4
   exact k c.2 0 [] λl q=>q
 ·simp only[aN,aQ]
  have:=hf.2.1
  have e2:(qP c).2.1=(lU 0 [] c.2).2:=rfl
  have e3:(qP c).2.2.1=c.2.filter λl=>decide (l.1≠1) && decide (l.1≠2):=rfl
  have e4:(qP c).2.2.2.1=(c.2.filter λl=>decide (l.1=2)).map λl=>l.2.1:=rfl
  rw[e2,e3,e4,aQ]
  omega
 ·have one: ∀(k:Int) (l:List oU),(∀x∈l,x.1=k)->l.Pairwise λa b=>a.1<=b.1:=by
   intro k l
   induction l with
   |nil=>intro _;exact .nil
   |cons x l ih=>
    intro h
    exact ig.2 ⟨λy hy=>by rw[h x (by simp),h y (by simp [hy])];exact jQ _,ih λy q=>h y (by simp [q])⟩
  rw[fD,fD]
  have m1: ∀(k:Int) {α:Type} (f:α->pK×vP) (l:List α) (x:oU),x∈l.map (λa=>(k,f a))->x.1=k:=λk α f l x q=>by obtain⟨a,-,rfl⟩:=bq.1 q;rfl
  refine⟨one 1 _ (m1 1 (λp=>(p,oQ)) _),⟨one 2 _ (m1 2 (λt=>(zy,t)) _),one 3 _ (m1 3 (λp=>(p,oQ)) _),λa ha b hb=> ?_⟩,λa ha b hb=> ?_⟩
  ·rw[m1 2 (λt=>(zy,t)) _ a ha,m1 3 (λp=>(p,oQ)) _ b hb];decide
  ·rw[m1 1 (λp=>(p,oQ)) _ a ha]
   rcases bG.1 hb with q|q
   ·rw[m1 2 (λt=>(zy,t)) _ b q];decide
   ·rw[m1 3 (λp=>(p,oQ)) _ b q];decide
end Edict
namespace Edict
def rR(s:Nat×List Nm×List ll)(t:ll):Nat×List Nm×List ll:=
 if t.1=4 then(if t.2.2.1=[95]then(s.1+1,ni s.2.1 (oO s.1),s.2.2++[(t.1,t.2.1,oO s.1,t.2.2.2)])else(s.1,ni s.2.1 t.2.2.1,s.2.2++[t]))else(s.1,s.2.1,s.2.2++[t])
theorem Jg{t:ll}: ∀{l:List ll} {w:Nat} {v:List Nm},lC w v (l++[t])=rR (lC w v l) t
 |[],w,v=>by
  rw[bI]
  unfold rR
  simp only[lC]
  split
  ·split<;>simp
  ·simp
 |s::l,w,v=>by
  rw[bO]
  unfold lC
  simp only[Jg (l:=l)]
  have key: ∀(r:Nat×List Nm×List ll) (x:ll),((rR r t).1,(rR r t).2.1,x::(rR r t).2.2)=rR (r.1,r.2.1,x::r.2.2) t:=λr x=>by
   unfold rR
   split
   ·split<;>simp
   ·simp
  split
  ·split<;>exact key _ _
  ·exact key _ _
def qQ:Nat->List Nm->List lV->Nat
 |w,_,[]=>w
 |w,v,l::m=>if l.1=1 then qQ (lC w v l.2.1.2.1).1 (lC w v l.2.1.2.1).2.1 m else qQ w v m
theorem BL{l:lV}: ∀{m:List lV} {w:Nat} {v:List Nm},lU w v (m++[l])=if l.1=1 then((lC (qQ w v m) (lU w v m).1 l.2.1.2.1).2.1,(lU w v m).2++[(l.2.1.1,(lC (qQ w v m) (lU w v m).1 l.2.1.2.1).2.2,0)])else lU w v m
 |[],w,v=>by rw[bI];simp only[lU,qQ];split<;>simp
 |x::m,w,v=>by
  rw[bO]
  unfold lU
  simp only[qQ]
  by_cases hx:x.1=1
  ·simp only[ay hx,BL (m:=m)]
   split<;>simp
  ·simp only[ah hx,BL (m:=m)]
theorem BM{l:lV}: ∀{m:List lV} {w:Nat} {v:List Nm},qQ w v (m++[l])=if l.1=1 then(lC (qQ w v m) (lU w v m).1 l.2.1.2.1).1 else qQ w v m
 |[],w,v=>by rw[bI];simp only[lU,qQ]
 |x::m,w,v=>by
  rw[bO]
  unfold qQ
  simp only[lU]
  by_cases hx:x.1=1
  ·simp only[ay hx,BM (m:=m)]
  ·simp only[ah hx,BM (m:=m)]
theorem Jh: ∀{m:List lV} {w:Nat} {v:List Nm},v.Nodup->qQ w v m=w+ng (pg m)
 |[],w,v,_=>by simp [qQ,pg,ng]
 |l::m,w,v,h=>by
  unfold qQ
  split
  ·rename_i hl
   have e:pg (l::m)=l.2.1.2.1++pg m:=by unfold pg;rw[dF (by simp [hl]),dQ]
   obtain⟨a,b,-⟩:=xA (l:=l.2.1.2.1) (w:=w) h
   rw[e,rQ,Jh a,b,dY]
  ·rename_i hl
   have e:pg (l::m)=pg m:=by unfold pg;rw[cz (by simp [hl])]
   rw[e,Jh h]
theorem acj{c:kX}(h:uz c):ng (pg c.2)<=16:=by
 obtain⟨-,-,q3⟩:=CV (l:=(qh c).map (·.1)) (a:=[])
 have e:(qh c).map (·.1)=c.1.2.1.map (λt=>t)++(sK c.2).map (·.1):=by unfold qh;simp [iK]
 have h1:=h.1
 have hc:=List.count_le_length (a:=[95]) (l:=BK [] ((qh c).map (·.1)))
 have hw:=Lu c.2
 rw[q3]at hc
 rw[e]at hc h1
 rw[rQ]at hc
 simp only[List.count_nil,bY]at hc
 omega
theorem Ve{c:kX}{k j:Nat}{l:lV}(hl:c.2[k]? =some l)(h1:l.1=1)(hb:uz c):ng (pg (c.2.take k))+ng (l.2.1.2.1.take j)<=16:=by
 have h16:=acj hb
 have e:c.2=c.2.take k++(l::c.2.drop (k+1)):=by
  obtain⟨hk,e⟩:=aJ.1 hl
  rw[<-e,List.getElem_cons_drop,dC]
 have pa: ∀a b:List lV,pg (a++b)=pg a++pg b:=λa b=>by unfold pg;rw[fe,List.flatMap_append]
 have e2:pg (l::c.2.drop (k+1))=l.2.1.2.1++pg (c.2.drop (k+1)):=by unfold pg;rw[dF (by simp [h1]),dQ]
 rw[e,pa,e2,rQ,rQ]at h16
 have:ng (l.2.1.2.1.take j)<=ng l.2.1.2.1:=by
  unfold ng
  exact((jo j l.2.1.2.1).filter _).length_le
 omega
end Edict
namespace Go.Proofs.Z
open Go Go.Ev Edict Go.RowKit
def ach(vs:List Value)(h:H)(K:Value->H->Prop):Prop:= ∃k:Nat,vs=[.int .i64 k]/\k<=20/\K (str (oO k)) h
theorem aci(k:Nat)(hk:k<=20):(⟨#[95,32]⟩:ByteArray)++Utf8.encode (97+(k:Int))=⟨(oO k).toArray⟩:=by
 have: ∀k:Fin 21,(⟨#[95,32]⟩:ByteArray)++Utf8.encode (97+((k:Nat):Int))=⟨(oO k).toArray⟩:=by decide
 exact this ⟨k,by omega⟩
theorem aej(k:Nat)(hk:k<=20):(Utf8.encode (97+(k:Int))).size=1:=by
 have: ∀k:Fin 21,(Utf8.encode (97+((k:Nat):Int))).size=1:=by decide
 exact this ⟨k,by omega⟩
theorem Zh{vs:List Value}{h:H}{K:Value->H->Prop}{KP:List PanicEntry->H->Prop}(hC:ach vs h K):ma Tryz.prog 95 vs h K KP:=by
 obtain⟨k,rfl,hk,hK⟩:=hC
 refine .inl ⟨by kernel_rfl,λw hw=> ?_⟩
 refine calls_of_wp Tryz.func95 rfl ?_
 apply wp_seq
 apply wp_region
 simp [wpOps,go_sem,Tryz.ntmps95,Exit.then]
 refine .inl (wp_seq ?_)
 apply wp_region
 have u1:=Tryz.underlying3
 have u2:=Tryz.underlying21
 have u3:=Tryz.underlying9
 have hk1:((97:Int)+(k:Int))=97+(k:Int):=rfl
 have hw1:IntKind.wrap .i64 (97+(k:Int))=97+(k:Int):=Tt (by omega) (by omega)
 have hw2:IntKind.wrap .i32 (97+(k:Int))=97+(k:Int):=by simp [IntKind.wrap,IntKind.bits,IntKind.signed];omega
 simp [wpOps,go_sem,Exit.then,u1,u2,u3,hw1,hw2,aci k hk,aej k hk]
 repeat refine .inl ?_
 refine wp_ret ?_
 subst hw
 simp [bodyPost,results,Tryz.results95]
 exact⟨oZ.refl _,hK⟩
end Go.Proofs.Z
namespace Edict
variable {p:List kX} {P:List Nm} {lv:List Nat}
def CX(p:List kX)(P:List Nm)(lv:List Nat):Prop:=lv.length=P.length/\ ∀(i:Nat) n x,P[i]? =some n->lv[i]? =some x->NW p x n
theorem CX.init:CX p P (List.replicate P.length 0):=by
 refine⟨by simp,λi n x h1 h2=> ?_⟩
 rw[fT]at h2
 split at h2
 ·cases h2;exact .zero n
 ·cases h2
theorem CX.le(h:CX p P lv)(hn:BI p)(hP: ∀c∈p,c.1.1∈P){x:Nat}(hx:x∈lv):x<=P.length:=by
 obtain⟨i,hi⟩:=dW hx
 have:=(aJ.1 hi).1
 rw[h.1]at this
 exact(h.2 i P[i] x (by simp [this]) hi).le hn hP
theorem CX.set(h:CX p P lv){i m:Nat}{n:Nm}(hi:P[i]? =some n)(hm:NW p m n):CX p P (lv.set i m):=by
 refine⟨by rw[dS];exact h.1,λj n' x h1 h2=> ?_⟩
 by_cases hj:j=i
 ·subst hj
  rw[hi]at h1
  cases h1
  rw[iL (by have:=(aJ.1 hi).1;rw[h.1];exact this)]at h2
  cases h2
  exact hm
 ·rw[gH (by omega)]at h2
  exact h.2 j n' x h1 h2
theorem Xm: ∀{l:List Nat} {i x m:Nat},l[i]? =some x->x<m->l.sum<(l.set i m).sum
 |[],i,x,m,h,_=>by simp at h
 |a::l,0,x,m,h,h2=>by
  cases h
  simp only[bP,jZ];omega
 |a::l,i+1,x,m,h,h2=>by
  have:=Xm (l:=l) (i:=i) h h2
  simp only[cZ,jZ];omega
theorem ack{b:Nat}: ∀{l:List Nat},(∀x∈l,x<=b)->l.sum<=l.length*b
 |[],_=>by simp
 |a::l,h=>by
  have:=ack (l:=l) λx q=>h x (by simp [q])
  have:=h a (by simp)
  simp only[jZ,aM,iO];omega
def ahA(p:List kX)(R:List Xe):Prop:= ∀r∈R,∃c∈p,r.1.1=c.1.1/\(∀a∈r.2.1,∃l∈c.2,l.1=1/\l.2.1.1=a.1)/\ ∀a∈r.2.2.2.1,∃l∈c.2,l.1=2/\l.2.1.1=a.1
theorem Ji: ∀{m:List lV} {w:Nat} {v:List Nm},∀a∈(lU w v m).2,∃l∈m,l.1=1/\l.2.1.1=a.1
 |[],w,v,a,h=>by cases h
 |l::m,w,v,a,h=>by
  unfold lU at h
  split at h
  ·rename_i hl
   rcases bn.1 h with rfl|h
   ·exact⟨l,by simp,hl,rfl⟩
   ·obtain⟨x,q1,q2⟩:=Ji a h;exact⟨x,by simp [q1],q2⟩
  ·obtain⟨x,q1,q2⟩:=Ji a h;exact⟨x,by simp [q1],q2⟩
theorem aek{f:kX->Bool}:ahA p ((p.filter f).map qP):=by
 intro r hr
 obtain⟨c,hc,rfl⟩:=bq.1 hr
 refine⟨c,(eB.1 hc).1,rfl,λa ha=>Ji a ha,λa ha=> ?_⟩
 obtain⟨l,hl,rfl⟩:=bq.1 (show a∈(c.2.filter λl=>decide (l.1=2)).map λl=>l.2.1 from ha)
 have:=eB.1 hl
 exact⟨l,this.1,by simpa using this.2,rfl⟩
end Edict
namespace Edict
variable {l:List pK} {w w':Int} {m:List oU}
def Su:Int->List pK->Option Int
 |w,[]=>some w
 |w,p::m=>match vg w p.2 with|some x=>Su x m|none=>none
theorem yh: ∀{l:List pW} {w w':Int},vg w l=some w'->w<=w'/\ ∀s∈l,s.1=true->s.2<w'
 |[],w,w',h=>by cases h;exact⟨jQ _,λs q=>(by cases q)⟩
 |s::l,w,w',h=>by
  unfold vg at h
  split at h
  ·cases h
  rename_i hn
  obtain⟨a,b⟩:=yh h
  refine⟨?_,λt ht h1=> ?_⟩
  ·split at a<;>omega
  ·rcases bn.1 ht with rfl|ht
   ·split at a
    ·omega
    ·rename_i q
     have q1: ¬w<t.2:=λq=>hn ⟨h1,q⟩
     have q2:t.2≠w:=λq2=>q ⟨h1,q2⟩
     omega
   ·exact b t ht h1
theorem Xn: ∀{l:List pK} {w w':Int},Su w l=some w'->w<=w'/\True
 |[],w,w',h=>by cases h;exact⟨jQ _,trivial⟩
 |p::l,w,w',h=>by
  unfold Su at h
  split at h
  ·rename_i x hx
   have:=(yh hx).1
   have:=(Xn h).1
   exact⟨by omega,trivial⟩
  ·cases h
theorem ael(h:Chn w (l.map λp=>(3,p,oQ)) w'):w'=w/\ ∀p∈l,sN p/\ ∀s∈p.2,rA s w:=by
 induction l with
 |nil=>cases h;exact⟨rfl,λp q=>(by cases q)⟩
 |cons p l ih=>
  rw[bF]at h
  cases h with
  |cons h1 h2 h3 h4=>
   rcases h1 with⟨q|⟨-,rfl⟩,-,hp,hw⟩|⟨q,-⟩
   ·simp at q
   ·obtain⟨e,hl⟩:=ih h4
    obtain⟨-,hb⟩:=yh hw
    refine⟨e,λx hx=> ?_⟩
    rcases bn.1 hx with rfl|hx
    ·exact⟨hp,λs hs=>⟨hp.2.2 s hs,hb s hs⟩⟩
    ·exact hl x hx
   ·simp at q
theorem aem{l:List vP}(h:Chn w (l.map (λt=>(2,zy,t))++m) w'):Chn w m w'/\ ∀t∈l,1<=t.1/\t.1<=6/\rA t.2.1 w/\rA t.2.2 w:=by
 induction l with
 |nil=>exact⟨h,λp q=>(by cases q)⟩
 |cons t l ih=>
  rw[bF,bO]at h
  cases h with
  |cons h1 h2 h3 h4=>
   rcases h1 with⟨q|⟨q,-⟩,-⟩|⟨-,-,rfl,a,b,c,d⟩
   ·simp at q
   ·simp at q
   ·obtain⟨e,hl⟩:=ih h4
    refine⟨e,λx hx=> ?_⟩
    rcases bn.1 hx with rfl|hx
    ·exact⟨a,b,c,d⟩
    ·exact hl x hx
theorem aen(h:Chn w (l.map (λp=>(1,p,oQ))++m) w'): ∃x,Su w l=some x/\Chn x m w'/\(∀p∈l,sN p)/\((0<=w/\w<=16)->0<=x/\x<=16):=by
 induction l generalizing w with
 |nil=>exact⟨w,rfl,h,λp q=>(by cases q),λq=>q⟩
 |cons p l ih=>
  rw[bF,bO]at h
  cases h with
  |cons h1 h2 h3 h4=>
   rcases h1 with⟨-,-,hp,hw⟩|⟨q,-⟩
   ·obtain⟨x,a,b,c,d⟩:=ih h4
    refine⟨x,by unfold Su;rw[hw];exact a,b,λq hq=> ?_,λ_=>d ⟨h2,h3⟩⟩
    rcases bn.1 hq with rfl|hq
    ·exact hp
    ·exact c q hq
   ·simp at q
structure ahB (r:qW) (w:Int):Prop where
 le:r.2.1.length+r.2.2.1.length+r.2.2.2.1.length<=16
 wp:Su 0 r.2.1=some w
 w0:0<=w/\w<=16
 pos: ∀p∈r.2.1,sN p
 tst: ∀t∈r.2.2.1,1<=t.1/\t.1<=6/\rA t.2.1 w/\rA t.2.2 w
 neg: ∀p∈r.2.2.2.1,sN p/\ ∀s∈p.2,rA s w
theorem ahC{r:qW}(h:Chn 0 (kQ r) w)(hl:(kQ r).length<=16):ahB r w:=by
 have hlen:(kQ r).length=r.2.1.length+r.2.2.1.length+r.2.2.2.1.length:=by unfold kQ;simp [dY]
 unfold kQ at h
 obtain⟨x,a,b,c,d⟩:=aen h
 obtain⟨e,f⟩:=aem b
 obtain⟨rfl,g⟩:=ael e
 exact⟨by omega,a,d ⟨by decide,by decide⟩,c,f,g⟩
end Edict
