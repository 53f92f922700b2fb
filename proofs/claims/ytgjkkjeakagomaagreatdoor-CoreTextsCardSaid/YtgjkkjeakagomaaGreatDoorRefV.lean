/- A part of the proof. -/
import Derived.Test.YtgjkkjeakagomaaGreatDoorLexS
import Derived.Test.YtgjkkjeakagomaaGreatDoorRefS
set_option linter.all false
set_option maxRecDepth 100000
set_option maxHeartbeats 4000000
open Go.Value renaming int→Jx
open Go.IntKind renaming i64→JT
namespace Edict
def tQ(x:uQ):List Go.Value:=[Jx JT x.1,Jx JT x.2.1,Go.Ev.str x.2.2.1,Jx JT x.2.2.2]
def oo(f:Flt):Go.Value:= .agg #[Jx JT f.1,Jx JT 0,Jx JT f.2]
end Edict
namespace Go.Proofs.Z
open Go Go.Ev Edict
variable {L:List kR} {i:Nat} {r:List kR} {t:kR}
variable {vs:List Value} {h:H} {K:Value->H->Prop} {KP:List PanicEntry->H->Prop}
def gu(f:Flt):List PanicEntry:=[{v:= .iface 125 (oo f),recovered:=false}]
def Af(u:U)(h:H)(rb:Nat)(sl:Value)(L:List kR)(bad:Flt)(i:Nat):Prop:=
 jR u h rb [sl,Jx JT i,Jx JT bad.1,Jx JT 0,Jx JT bad.2]/\i<=L.length/\jS u h sl L/\L.length<=65537
theorem Af.step{S:Nat->Prop}{u u':U}{h h':H}{rb:Nat}{sl:Value}{L:List kR}{bad:Flt}{i:Nat}(k:Af u h rb sl L bad i)(s:jD S u h u' h')(hn: ¬S rb):Af u' h' rb sl L bad i:=
 ⟨k.1.step s hn,k.2.1,k.2.2.1.mono s.ge,k.2.2.2⟩
theorem Af.sZ{u u':U}{h h':H}{rb:Nat}{sl:Value}{L:List kR}{bad:Flt}{i:Nat}(k:Af u h rb sl L bad i)(s:jD S0 u h u' h'):Af u' h' rb sl L bad i:=k.step s (λh=>h)
theorem mD(h:L.drop i=t::r):i<L.length/\L[i]? =some t/\L.drop (i+1)=r:=by
 have h1:L[i]? =some t:=by
  have:=bA (·[0]?) h
  simpa using this
 refine⟨(aB.1 h1).1,h1,?_⟩
 rw[<-dS,h];rfl
theorem QA(h:L.drop i=[]):L.length<=i:=by simpa using h
theorem uP(h:L.drop i=t::r)(q:L.drop i=[]):False:=by rw[h]at q;cases q
theorem sI{t':kR}{r':List kR}(h:L.drop i=t::r)(q:L.drop i=t'::r'):t=t'/\r=r':=by rw[h]at q;cases q;exact⟨rfl,rfl⟩
def sJ(vs:List Value)(h:H)(K:Value->H->Prop)(KP:List PanicEntry->H->Prop):Prop:= ∃(u:U) (rb:Nat) (sl:Value) (L:List kR) (bad:Flt) (i:Nat),vs=[.pointer (some ⟨rb,0,none⟩)]/\Af u h rb sl L bad i/\
 ∀u' h',jD S0 u h u' h'->(L.drop i=[]->KP (gu bad) h')/\ ∀t r,L.drop i=t::r->K (.agg (kU t).toArray) h'
theorem qA(hC:sJ vs h K KP):kN Tryz.prog 13 vs h K KP:=by
 obtain⟨u,rb,sl,L,bad,i,rfl,⟨hB,hi,hL,hLl⟩,hK⟩:=hC
 obtain⟨a,c,rfl,q1,q2⟩:=hL.sl
 refine jJ 4101 [((some (.c1 (.ldn 6) (.t 2))),(.o1 (.ldn 6) (.t 2)))] (G:=(λ_ _ _ _ _=>False)) (λ_ _ _ _ _ h=>h.elim) Tryz.func13 ?_ (by kernel_rfl) (by apply c0 rfl;repeat' first|apply cS|apply cK|apply cL|apply cX|(apply cC zD)|(conv=>lhs;cbv;try simp only[Kw]))
 have s1:=jD.qZ S0 u h #[Jx JT 0,str [],Jx JT 0,Jx JT 0,Jx JT 0,Jx JT 0] 46
 have B1:=jR.new (u:=u) (h:=h) [Jx JT 0,str [],Jx JT 0,Jx JT 0,Jx JT 0,Jx JT 0] 46
 have hB':=hB.sZ s1
 have hL':=hL.mono s1.ge
 obtain⟨h1,hh1⟩:=kg (h.push (.cells #[Jx JT 0,str [],Jx JT 0,Jx JT 0,Jx JT 0,Jx JT 0] 46))
 obtain⟨u1,hu1⟩:=kg (ub u h.size 0)
 have B1':jR u1 h1 h.size [Jx JT 0,str [],Jx JT 0,Jx JT 0,Jx JT 0,Jx JT 0]:=by rw[hu1,hh1];exact B1
 rw[<-hh1,<-hu1]at s1 hB' hL'
 have hB1:=hB'.1
 have hBb:=B1'.1
 cases hd:L.drop i with
 |nil=>
  have hge:=QA hd
  simp(disch:=first|omega|simp only[zz];try omega;done) only[↓reduceIte,go_sem,<-hh1,hB'.at,hB'.2.1,ai (show((L.length:Nat):Int)<=(i:Nat) by omega)]
  exact(hK _ _ s1).1 hd
 |cons t r=>
  obtain⟨hlt,hget,hd'⟩:=mD hd
  obtain⟨pb,po,rfl,hpb,hpu,hpz,hpr⟩:=hL'.row i t hget
  rw[qh]at hpr
  simp only[kU,yP,qU,ax,aC]at hpr hpu hpz
  obtain⟨p0,p1,p2,p3,p4,p5⟩:=hpr
  have w1:=B1'.sets (l:=[Jx JT t.1,str t.2.1,Jx JT t.2.2.1,Jx JT t.2.2.2.1,Jx JT t.2.2.2.2.1,Jx JT t.2.2.2.2.2]) rfl
  have s2:=s1.rZ (b:=h.size) (o:=0) (l:=[Jx JT t.1,str t.2.1,Jx JT t.2.2.1,Jx JT t.2.2.2.1,Jx JT t.2.2.2.2.1,Jx JT t.2.2.2.2.2]) (.inl (ak _)) (by rw[B1'.2.2.2.1];exact aj _) (by rw[B1'.2.1];exact ak _)
  have hK':=(hK _ _ s2).2 t r hd
  simp only[kU]at hK'
  simp(disch:=first|omega|simp only[zz];try omega;done) only[↓reduceIte,go_sem,<-hh1,hB'.at,hB'.2.1,ae (show¬((L.length:Nat):Int)<=(i:Nat) by omega),ai (show(i:Int)<(L.length:Nat) by omega),p0,p1,p2,p3,p4,p5,B1'.2.1,B1'.2.2.1,w1.at,w1.2.1]
  exact hK'
def Br(vs:List Value)(h:H)(KP:List PanicEntry->H->Prop):Prop:= ∃(u:U) (rb:Nat) (sl:Value) (L:List kR) (bad:Flt) (i:Nat) (e:Int),vs=[.pointer (some ⟨rb,0,none⟩),Jx JT e]/\Af u h rb sl L bad i/\
 ∀u' h',jD S0 u h u' h'->(L.drop i=[]->KP (gu bad) h')/\ ∀t r,L.drop i=t::r->KP (gu (wZ e t)) h'
def akN:lq:=λf vs h K KP=>f=13/\sJ vs h K KP
theorem acU:lQ Tryz.prog akN:=by
 rintro f vs h K KP ⟨rfl,hC⟩;exact qA hC
theorem xW(hC:Br vs h KP):kN Tryz.prog 14 vs h K KP:=by
 obtain⟨u,rb,sl,L,bad,i,e,rfl,hR,hK⟩:=hC
 refine jJ 3 [] acU Tryz.func14 ?_
 simp only[↓reduceIte,go_sem]
 refine jC ⟨rfl,u,rb,sl,L,bad,i,rfl,hR,λu' h' s=>⟨λhd=>(hK _ _ s).1 hd,λt r hd=>⟨jO,?_⟩⟩⟩
 have:=(hK _ _ s).2 t r hd
 simp only[gu,oo,wZ,tO]at this
 simp only[kU]
 simp(disch:=omega) only[↓reduceIte,go_sem,jN]
 exact this
def vD(vs:List Value)(h:H)(KP:List PanicEntry->H->Prop):Prop:= ∃(u:U) (rb:Nat) (sl:Value) (L:List kR) (bad:Flt) (i:Nat),vs=[.pointer (some ⟨rb,0,none⟩)]/\Af u h rb sl L bad i/\
 ∀u' h',jD S0 u h u' h'->(L.drop i=[]->KP (gu bad) h')/\ ∀t r,L.drop i=t::r->KP (gu (kH t)) h'
def akO:lq:=λf vs h K KP=>(f=13/\sJ vs h K KP)\/(f=14/\Br vs h KP)
theorem acV:lQ Tryz.prog akO:=by
 rintro f vs h K KP (⟨rfl,hC⟩|⟨rfl,hC⟩)
 ·exact qA hC
 ·exact xW hC
theorem uB(hC:vD vs h KP):kN Tryz.prog 52 vs h K KP:=by
 obtain⟨u,rb,sl,L,bad,i,rfl,hR,hK⟩:=hC
 refine jJ 33 [] acV Tryz.func52 ?_
 simp only[↓reduceIte,go_sem]
 refine jC (.inl ⟨rfl,u,rb,sl,L,bad,i,rfl,hR,λu' h' s=>⟨λhd=>(hK _ _ s).1 hd,λt r hd=>⟨jO,?_⟩⟩⟩)
 have hR':=hR.sZ s
 simp only[kU]
 have key: ∀u2 h2,jD S0 u' h' u2 h2->KP (gu (kH t)) h2:=λu2 h2 s2=>(hK _ _ (s.tZ s2)).2 t r hd
 by_cases h0:t.1=0
 ·have e:kH t=wZ 21 t:=by unfold kH tK wZ;rw[ah h0]
  rw[e]at key
  simp(disch:=omega) only[↓reduceIte,go_sem,h0]
  exact jC (.inr ⟨rfl,u',rb,sl,L,bad,i,21,rfl,hR',λu2 h2 s2=>⟨λq=>(uP hd q).elim,λt' r' hd'=>(by obtain⟨rfl,rfl⟩:=sI hd hd';exact key _ _ s2)⟩⟩)
 ·have e:kH t=wZ 20 t:=by unfold kH tK wZ;rw[af h0]
  rw[e]at key
  simp(disch:=omega) only[↓reduceIte,go_sem,h0]
  exact jC (.inr ⟨rfl,u',rb,sl,L,bad,i,20,rfl,hR',λu2 h2 s2=>⟨λq=>(uP hd q).elim,λt' r' hd'=>(by obtain⟨rfl,rfl⟩:=sI hd hd';exact key _ _ s2)⟩⟩)
def Bt(vs:List Value)(h:H)(K:Value->H->Prop):Prop:= ∃(k:Int) (b:Bool),vs=[Jx JT k,.bool b]/\K (.bool (pK k b)) h
theorem Ag(hC:Bt vs h K):kN Tryz.prog 53 vs h K KP:=by
 obtain⟨k,b,rfl,hK⟩:=hC
 refine jJ 1139 [(none,(.t 4))] (G:=(λ_ _ _ _ _=>False)) (λ_ _ _ _ _ h=>h.elim) Tryz.func53 ?_
 unfold pK at hK
 by_cases h1:k=1
 ·subst h1
  simp at hK
  simp only[↓reduceIte,go_sem]
  exact hK
 by_cases h3:k=3
 ·subst h3
  simp at hK
  simp only[↓reduceIte,go_sem]
  exact hK
 by_cases h4:k=4
 ·subst h4
  simp at hK
  simp only[↓reduceIte,go_sem]
  exact hK
 by_cases h2:k=2
 ·subst h2
  simp at hK
  simp only[↓reduceIte,go_sem]
  exact hK
 rw[aI h1,aI h3,aI h4,aI h2]at hK
 simp only[↓reduceIte,go_sem,h1,h2,h3,h4]
 exact hK
theorem rA(u:U)(h:H)(zs cs:List Value)(T:TypeId)(hl:cs.length=zs.length): ∃h3 h4 u4,h3=h.push (.cells zs.toArray T)/\h4=jW h3 h.size 0 cs/\jR u4 h3 h.size zs/\jR u4 h4 h.size cs/\jD S0 u h u4 h4/\h4.size=h.size+1:=by
 have B:=jR.new (u:=u) (h:=h) zs T
 have s:=(jD.qZ S0 u h zs.toArray T).rZ (b:=h.size) (o:=0) (l:=cs) (.inl (ak _)) (by rw[B.2.2.2.1];exact aj _) (by rw[B.2.1,hl];omega)
 exact⟨_,_,_,rfl,rfl,B,B.sets hl,s,by rw[lI];simp⟩
theorem Af.adv{u:U}{h:H}{rb:Nat}{sl:Value}{bad:Flt}(k:Af u h rb sl L bad i)(hi:i<L.length):
  ∃h',h'=ky h rb 1 (Jx JT ((i:Int)+1))/\jD (λb=>b=rb) u h u h'/\Af u h' rb sl L bad (i+1):=by
 obtain⟨hB,-,hL,hl⟩:=k
 have s:=jD.set (S:=λb=>b=rb) u h (b:=rb) (o:=1) (Jx JT ((i:Int)+1)) rfl (by rw[hB.2.2.2.1];exact aj _)
 exact⟨_,rfl,s,hB.set (i:=1) (v:= Jx JT ((i:Int)+1)) zP,hi,hL.mono s.ge,hl⟩
def GQ(vs:List Value)(h:H)(K:Value->H->Prop)(KP:List PanicEntry->H->Prop):Prop:= ∃(u:U) (rb:Nat) (sl:Value) (L:List kR) (bad:Flt) (i:Nat) (k:Int),vs=[.pointer (some ⟨rb,0,none⟩),Jx JT k]/\Af u h rb sl L bad i/\
 (∀u' h',jD S0 u h u' h'->L.drop i=[]->KP (gu bad) h')/\(∀u' h' t r,jD S0 u h u' h'->L.drop i=t::r->tK t≠k->KP (gu (kH t)) h')/\
 (∀u' h' t r,jD S0 u h u' h'->L.drop i=t::r->tK t=k->k=0->K (.agg (kU t).toArray) h')/\
 (∀u' h' t r,jD (λb=>b=rb) u h u' h'->L.drop i=t::r->tK t=k->k≠0->Af u' h' rb sl L bad (i+1)->K (.agg (kU t).toArray) h')
def akP:lq:=λf vs h K KP=>(f=13/\sJ vs h K KP)\/(f=52/\vD vs h KP)
theorem acW:lQ Tryz.prog akP:=by
 rintro f vs h K KP (⟨rfl,hC⟩|⟨rfl,hC⟩)
 ·exact qA hC
 ·exact uB hC
theorem EF(hC:GQ vs h K KP):kN Tryz.prog 18 vs h K KP:=by
 obtain⟨u,rb,sl,L,bad,i,k,rfl,hR,hK1,hK2,hK3,hK4⟩:=hC
 refine jJ 34867 [((some (.c1 (.ldn 6) (.t 4))),(.o1 (.ldn 6) (.t 4)))] acW Tryz.func18 ?_
 have s1:=jD.qZ S0 u h #[Jx JT 0,str [],Jx JT 0,Jx JT 0,Jx JT 0,Jx JT 0] 46
 have B1:=jR.new (u:=u) (h:=h) [Jx JT 0,str [],Jx JT 0,Jx JT 0,Jx JT 0,Jx JT 0] 46
 obtain⟨h1,hh1⟩:=kg (h.push (.cells #[Jx JT 0,str [],Jx JT 0,Jx JT 0,Jx JT 0,Jx JT 0] 46))
 obtain⟨u1,hu1⟩:=kg (ub u h.size 0)
 have B1':jR u1 h1 h.size [Jx JT 0,str [],Jx JT 0,Jx JT 0,Jx JT 0,Jx JT 0]:=by rw[hu1,hh1];exact B1
 rw[<-hh1,<-hu1]at s1
 clear B1
 have hR1:=hR.sZ s1
 have hrb:rb<h.size:=hR.1.1
 simp only[↓reduceIte,go_sem,<-hh1]
 refine jC (.inl ⟨rfl,u1,rb,sl,L,bad,i,rfl,hR1,λu2 h2 s2=>⟨λhd=>hK1 _ _ (s1.tZ s2) hd,λt r hd=>⟨jO,?_⟩⟩⟩)
 obtain⟨hlt,hget,hd'⟩:=mD hd
 obtain⟨h3,h4,u4,hh3,hh4,B3,B4,s4,hz4⟩:=rA u2 h2 [Jx JT 0,str [],Jx JT 0,Jx JT 0,Jx JT 0,Jx JT 0] (kU t) 46 rfl
 have hb1:h.size<h2.size:=bP B1'.1 s2.ge.sz
 have st4:=(s1.tZ s2).tZ s4
 have B14:=(B1'.sZ s2).sZ s4
 have hR4:=(hR1.sZ s2).sZ s4
 simp only[kU]at hh4 B4 ⊢
 have B31:=B3.1
 have B41:=B4.1
 have hRb:=hR4.1.1
 have hLl:=hR.2.2.2
 have hkey:decide (t.1=k)=decide (tK t=k):=rfl
 by_cases hk:tK t=k
 case neg=>
  have hk': ¬t.1=k:=hk
  simp(disch:=first|omega|simp only[zz];try omega;done) only[↓reduceIte,go_sem,<-hh3,<-hh4,B3.2.1,B3.2.2.1,B4.at,B4.2.1,hk']
  exact jC (.inr ⟨rfl,u4,rb,sl,L,bad,i,rfl,hR4,λu5 h5 s5=>⟨λq=>(uP hd q).elim,λt' r' hd'=>(by obtain⟨rfl,rfl⟩:=sI hd hd';exact hK2 _ _ _ _ (st4.tZ s5) hd hk)⟩⟩)
 have hk':t.1=k:=hk
 by_cases hk0:k=0
 ·have w:=B14.sets (l:=[Jx JT t.1,str t.2.1,Jx JT t.2.2.1,Jx JT t.2.2.2.1,Jx JT t.2.2.2.2.1,Jx JT t.2.2.2.2.2]) rfl
  have s6:=st4.rZ (b:=h.size) (o:=0) (l:=[Jx JT t.1,str t.2.1,Jx JT t.2.2.1,Jx JT t.2.2.2.1,Jx JT t.2.2.2.2.1,Jx JT t.2.2.2.2.2]) (.inl (ak _)) (by rw[B14.2.2.2.1];exact aj _) (by rw[B14.2.1];exact ak _)
  have hK':=hK3 _ _ _ _ s6 hd hk hk0
  simp only[kU]at hK'
  subst hk0
  simp(disch:=first|omega|simp only[zz];try omega;done) only[↓reduceIte,go_sem,<-hh3,<-hh4,B3.2.1,B3.2.2.1,B4.at,B4.2.1,ai hk',B14.2.1,B14.2.2.1,w.at,w.2.1]
  exact hK'
 ·obtain⟨h5,hh5,s5,hR5⟩:=hR4.adv hlt
  have hne1:h.size≠rb:=zO
  have hne2:h2.size≠rb:=zO
  have B15:=B14.step s5 hne1
  have B45:=B4.step s5 hne2
  have w:=B15.sets (l:=[Jx JT t.1,str t.2.1,Jx JT t.2.2.1,Jx JT t.2.2.2.1,Jx JT t.2.2.2.2.1,Jx JT t.2.2.2.2.2]) rfl
  have st5:jD (λb=>b=rb) u h u4 h5:=(st4.mono (λ_ _ q=>q.elim)).trans s5 (λb _ q=>q)
  have s6:=st5.rZ (b:=h.size) (o:=0) (l:=[Jx JT t.1,str t.2.1,Jx JT t.2.2.1,Jx JT t.2.2.2.1,Jx JT t.2.2.2.2.1,Jx JT t.2.2.2.2.2]) (.inl (ak _)) (by rw[B15.2.2.2.1];exact aj _) (by rw[B15.2.1];exact ak _)
  have s56:=jD.sets (S:=λb=>b=h.size) u4 h5 (b:=h.size) (o:=0) [Jx JT t.1,str t.2.1,Jx JT t.2.2.1,Jx JT t.2.2.2.1,Jx JT t.2.2.2.2.1,Jx JT t.2.2.2.2.2] rfl (by rw[B15.2.2.2.1];exact aj _) (by rw[B15.2.1];exact ak _)
  have hK':=hK4 _ _ _ _ s6 hd hk hk0 (hR5.step s56 (λq=>hne1 q.symm))
  simp only[kU]at hK'
  have hRB:=hR4.1
  simp(disch:=first|omega|simp only[zz];try omega;done) only[↓reduceIte,go_sem,<-hh3,<-hh4,B3.2.1,B3.2.2.1,B4.at,B4.2.1,ai hk',ae hk0,hRB.at,hRB.2.1,hRB.2.2.1,<-hh5,B45.at,B45.2.1,B15.2.1,B15.2.2.1,w.at,w.2.1]
  exact hK'
def NL(vs:List Value)(h:H)(K:Value->H->Prop)(KP:List PanicEntry->H->Prop):Prop:= ∃(u:U) (rb:Nat) (sl:Value) (L:List kR) (bad:Flt) (i:Nat) (v:Bool),vs=[.pointer (some ⟨rb,0,none⟩),.bool v]/\Af u h rb sl L bad i/\
 (∀u' h',jD S0 u h u' h'->L.drop i=[]->KP (gu bad) h')/\(∀u' h' t r,jD S0 u h u' h'->L.drop i=t::r->pK (tK t) v=false->KP (gu (kH t)) h')/\
 (∀u' h' t r,jD (λb=>b=rb) u h u' h'->L.drop i=t::r->pK (tK t) v=true->Af u' h' rb sl L bad (i+1)->K (.agg (tQ (kM t)).toArray) h')
def akQ:lq:=λf vs h K KP=>(f=13/\sJ vs h K KP)\/(f=52/\vD vs h KP)\/(f=53/\Bt vs h K)
theorem acX:lQ Tryz.prog akQ:=by
 rintro f vs h K KP (⟨rfl,hC⟩|⟨rfl,hC⟩|⟨rfl,hC⟩)
 ·exact qA hC
 ·exact uB hC
 ·exact Ag hC
theorem LM(hC:NL vs h K KP):kN Tryz.prog 54 vs h K KP:=by
 obtain⟨u,rb,sl,L,bad,i,v,rfl,hR,hK1,hK2,hK3⟩:=hC
 refine jJ 1238561202291 [((some (.c1 (.ldn 4) (.t 4))),(.o1 (.ldn 4) (.t 4)))] acX Tryz.func54 ?_
 have s1:=jD.qZ S0 u h #[Jx JT 0,Jx JT 0,str [],Jx JT 0] 74
 have B1:=jR.new (u:=u) (h:=h) [Jx JT 0,Jx JT 0,str [],Jx JT 0] 74
 obtain⟨h1,hh1⟩:=kg (h.push (.cells #[Jx JT 0,Jx JT 0,str [],Jx JT 0] 74))
 obtain⟨u1,hu1⟩:=kg (ub u h.size 0)
 have B1':jR u1 h1 h.size [Jx JT 0,Jx JT 0,str [],Jx JT 0]:=by rw[hu1,hh1];exact B1
 rw[<-hh1,<-hu1]at s1
 clear B1
 have hR1:=hR.sZ s1
 have hrb:rb<h.size:=hR.1.1
 simp only[↓reduceIte,go_sem,<-hh1]
 refine jC (.inl ⟨rfl,u1,rb,sl,L,bad,i,rfl,hR1,λu2 h2 s2=>⟨λhd=>hK1 _ _ (s1.tZ s2) hd,λt r hd=>⟨jO,?_⟩⟩⟩)
 obtain⟨hlt,hget,hd'⟩:=mD hd
 obtain⟨h3,h4,u4,hh3,hh4,B3,B4,s4,hz4⟩:=rA u2 h2 [Jx JT 0,str [],Jx JT 0,Jx JT 0,Jx JT 0,Jx JT 0] (kU t) 46 rfl
 have hb1:h.size<h2.size:=bP B1'.1 s2.ge.sz
 have st4:=(s1.tZ s2).tZ s4
 have B14:=(B1'.sZ s2).sZ s4
 have hR4:=(hR1.sZ s2).sZ s4
 simp only[kU]at hh4 B4 ⊢
 have B31:=B3.1
 have B41:=B4.1
 have hRb:=hR4.1.1
 have hLl:=hR.2.2.2
 simp(disch:=first|omega|simp only[zz];try omega;done) only[↓reduceIte,go_sem,<-hh3,<-hh4,B3.2.1,B3.2.2.1,B4.at,B4.2.1]
 refine jC (.inr (.inr ⟨rfl,t.1,v,rfl,⟨jO,?_⟩⟩))
 cases hT:pK t.1 v with
 |false=>
  simp only[↓reduceIte,go_sem,jN]
  exact jC (.inr (.inl ⟨rfl,u4,rb,sl,L,bad,i,rfl,hR4,λu5 h5 s5=>⟨λq=>(uP hd q).elim,λt' r' hd'=>(by obtain⟨rfl,rfl⟩:=sI hd hd';exact hK2 _ _ _ _ (st4.tZ s5) hd hT)⟩⟩))
 |true=>
 obtain⟨h5,hh5,s5,hR5⟩:=hR4.adv hlt
 have hne1:h.size≠rb:=zO
 have hne2:h2.size≠rb:=zO
 have B15:=B14.step s5 hne1
 have B45:=B4.step s5 hne2
 have st5:jD (λb=>b=rb) u h u4 h5:=(st4.mono (λ_ _ q=>q.elim)).trans s5 (λb _ q=>q)
 have hRB:=hR4.1
 have hz5:h2.size<h5.size:=B45.1
 have hrb5:=hR5.1.1
 obtain⟨h6,h7,u7,hh6,hh7,B66,B67,s7,hz7⟩:=rA u4 h5 [Jx JT 0,Jx JT 0,str [],Jx JT 0] [Jx JT 4,Jx JT 0,str t.2.1,Jx JT t.2.2.2.2.1] 74 rfl
 have B57:=B45.sZ s7
 have B17:=B15.sZ s7
 have hR7:=hR5.sZ s7
 have st7:=st5.tZ s7
 have B671:=B67.1
 have B571:=B57.1
 have B661:=B66.1
 simp(disch:=first|omega|simp only[zz];try omega;done) only[↓reduceIte,go_sem,hRB.at,hRB.2.1,hRB.2.2.1,<-hh5,B45.at,B45.2.1,<-hh6,<-hh7,B66.2.1,B66.2.2.1,B57.at,B57.2.1]
 by_cases k3:t.1=3
 ·have hTD:kM t=(1,tI t,[],tO t):=by unfold kM tK;simp [k3]
  have s70:=jD.refl (λb=>b=h5.size) u7 h7
  have B6k30:=B67.set (i:=0) (v:= Jx JT 1) zP
  have s7k30:=s70.setR (b:=h5.size) (o:=0) (v:= Jx JT 1) (.inr rfl) (by rw[B67.2.2.2.1];exact aj _)
  have B6k31:=B6k30.set (i:=1) (v:= Jx JT t.2.2.1) zP
  have s7k31:=s7k30.setR (b:=h5.size) (o:=1) (v:= Jx JT t.2.2.1) (.inr rfl) (by rw[B67.2.2.2.1];exact aj _)
  have B6k32:=B6k31.set (i:=2) (v:=str []) zP
  have s7k32:=s7k31.setR (b:=h5.size) (o:=2) (v:=str []) (.inr rfl) (by rw[B67.2.2.2.1];exact aj _)
  obtain⟨h9,hh9⟩:=kg (ky (ky (ky h7 h5.size 0 (Jx JT 1)) h5.size 1 (Jx JT t.2.2.1)) h5.size 2 (str []))
  rw[<-hh9]at B6k32 s7k32
  simp only[dK,cu]at B6k32
  have B69:=B6k32
  have B19:=B17.step s7k32 zO
  have hR9:=hR7.step s7k32 zO
  have st9:=st7.trans s7k32 (λb hb q=>zO)
  have B57k:=B57.step s7k30 zO
  have w:=B19.sets (l:=[Jx JT 1,Jx JT t.2.2.1,str [],Jx JT t.2.2.2.2.1]) rfl
  have s10:=st9.rZ (b:=h.size) (o:=0) (l:=[Jx JT 1,Jx JT t.2.2.1,str [],Jx JT t.2.2.2.2.1]) (.inl (ak _)) (by rw[B19.2.2.2.1];exact aj _) (by rw[B19.2.1];exact ak _)
  have s91:=jD.sets (S:=λb=>b=h.size) u7 h9 (b:=h.size) (o:=0) [Jx JT 1,Jx JT t.2.2.1,str [],Jx JT t.2.2.2.2.1] rfl (by rw[B19.2.2.2.1];exact aj _) (by rw[B19.2.1];exact ak _)
  have hK':=hK3 _ _ _ _ s10 hd hT (hR9.step s91 (λq=>hne1 q.symm))
  simp only[hTD,tQ]at hK'
  have B691:=B69.1
  have B191:=B19.1
  simp(disch:=first|omega|simp only[zz];try omega;done) only[go_sem,<-hh9,B57k.at,ai k3,B67.at,B67.2.1,B67.2.2.1,B69.at,B17.2.1,B17.2.2.1,w.at,w.2.1]
  exact hK'
 by_cases k1:t.1=1
 ·have hTD:kM t=(2,0,tX t,tO t):=by unfold kM tK;simp [k1]
  have s70:=jD.refl (λb=>b=h5.size) u7 h7
  have B6k10:=B67.set (i:=0) (v:= Jx JT 2) zP
  have s7k10:=s70.setR (b:=h5.size) (o:=0) (v:= Jx JT 2) (.inr rfl) (by rw[B67.2.2.2.1];exact aj _)
  obtain⟨h9,hh9⟩:=kg (ky h7 h5.size 0 (Jx JT 2))
  rw[<-hh9]at B6k10 s7k10
  simp only[cu]at B6k10
  have B69:=B6k10
  have B19:=B17.step s7k10 zO
  have hR9:=hR7.step s7k10 zO
  have st9:=st7.trans s7k10 (λb hb q=>zO)
  have w:=B19.sets (l:=[Jx JT 2,Jx JT 0,str t.2.1,Jx JT t.2.2.2.2.1]) rfl
  have s10:=st9.rZ (b:=h.size) (o:=0) (l:=[Jx JT 2,Jx JT 0,str t.2.1,Jx JT t.2.2.2.2.1]) (.inl (ak _)) (by rw[B19.2.2.2.1];exact aj _) (by rw[B19.2.1];exact ak _)
  have s91:=jD.sets (S:=λb=>b=h.size) u7 h9 (b:=h.size) (o:=0) [Jx JT 2,Jx JT 0,str t.2.1,Jx JT t.2.2.2.2.1] rfl (by rw[B19.2.2.2.1];exact aj _) (by rw[B19.2.1];exact ak _)
  have hK':=hK3 _ _ _ _ s10 hd hT (hR9.step s91 (λq=>hne1 q.symm))
  simp only[hTD,tQ]at hK'
  have B691:=B69.1
  have B191:=B19.1
  simp(disch:=first|omega|simp only[zz];try omega;done) only[go_sem,<-hh9,ae k3,ai k1,B67.at,B67.2.1,B67.2.2.1,B69.at,B17.2.1,B17.2.2.1,w.at,w.2.1]
  exact hK'
 by_cases k4:t.1=4
 ·have hTD:kM t=(3,0,tX t,tO t):=by unfold kM tK;simp [k4]
  have s70:=jD.refl (λb=>b=h5.size) u7 h7
  have B6k40:=B67.set (i:=0) (v:= Jx JT 3) zP
  have s7k40:=s70.setR (b:=h5.size) (o:=0) (v:= Jx JT 3) (.inr rfl) (by rw[B67.2.2.2.1];exact aj _)
  obtain⟨h9,hh9⟩:=kg (ky h7 h5.size 0 (Jx JT 3))
  rw[<-hh9]at B6k40 s7k40
  simp only[cu]at B6k40
  have B69:=B6k40
  have B19:=B17.step s7k40 zO
  have hR9:=hR7.step s7k40 zO
  have st9:=st7.trans s7k40 (λb hb q=>zO)
  have w:=B19.sets (l:=[Jx JT 3,Jx JT 0,str t.2.1,Jx JT t.2.2.2.2.1]) rfl
  have s10:=st9.rZ (b:=h.size) (o:=0) (l:=[Jx JT 3,Jx JT 0,str t.2.1,Jx JT t.2.2.2.2.1]) (.inl (ak _)) (by rw[B19.2.2.2.1];exact aj _) (by rw[B19.2.1];exact ak _)
  have s91:=jD.sets (S:=λb=>b=h.size) u7 h9 (b:=h.size) (o:=0) [Jx JT 3,Jx JT 0,str t.2.1,Jx JT t.2.2.2.2.1] rfl (by rw[B19.2.2.2.1];exact aj _) (by rw[B19.2.1];exact ak _)
  have hK':=hK3 _ _ _ _ s10 hd hT (hR9.step s91 (λq=>hne1 q.symm))
  simp only[hTD,tQ]at hK'
  have B691:=B69.1
  have B191:=B19.1
  simp(disch:=first|omega|simp only[zz];try omega;done) only[go_sem,<-hh9,ae k3,ae k1,ai k4,B67.at,B67.2.1,B67.2.2.1,B69.at,B17.2.1,B17.2.2.1,w.at,w.2.1]
  exact hK'
 have k2: ¬t.1=99:=λq=>(by rw[q]at hT;cases hT)
 ·have hTD:kM t=(4,0,tX t,tO t):=by unfold kM tK;simp [k3,k1,k4]
  obtain⟨h9,hh9⟩:=kg h7
  have B69:=B67
  have B19:=B17
  have hR9:=hR7
  have st9:=st7
  rw[<-hh9]at B69 B19 hR9 st9
  have w:=B19.sets (l:=[Jx JT 4,Jx JT 0,str t.2.1,Jx JT t.2.2.2.2.1]) rfl
  have s10:=st9.rZ (b:=h.size) (o:=0) (l:=[Jx JT 4,Jx JT 0,str t.2.1,Jx JT t.2.2.2.2.1]) (.inl (ak _)) (by rw[B19.2.2.2.1];exact aj _) (by rw[B19.2.1];exact ak _)
  have s91:=jD.sets (S:=λb=>b=h.size) u7 h9 (b:=h.size) (o:=0) [Jx JT 4,Jx JT 0,str t.2.1,Jx JT t.2.2.2.2.1] rfl (by rw[B19.2.2.2.1];exact aj _) (by rw[B19.2.1];exact ak _)
  have hK':=hK3 _ _ _ _ s10 hd hT (hR9.step s91 (λq=>hne1 q.symm))
  simp only[hTD,tQ]at hK'
  have B691:=B69.1
  have B191:=B19.1
  simp(disch:=first|omega|simp only[zz];try omega;done) only[go_sem,<-hh9,ae k3,ae k1,ae k4,B69.at,B69.2.1,B19.2.1,B19.2.2.1,w.at,w.2.1]
  exact hK'
end Go.Proofs.Z
namespace Go.Ev
open Go Rep Edict
theorem Qz{u:U}{h:H}{x:uQ}{cs:List Value}:rep u h x cs=(cs=tQ x):=by simp [lg,mG,mE,tQ]
end Go.Ev
namespace Go.Proofs.Z
open Go Go.Ev Edict
def GN(vs:List Value)(h:H)(K:Value->H->Prop)(KP:List PanicEntry->H->Prop):Prop:= ∃(u:U) (rb:Nat) (sl:Value) (L:List kR) (bad:Flt) (i:Nat) (v:Bool),vs=[.pointer (some ⟨rb,0,none⟩),.bool v]/\Af u h rb sl L bad i/\
 (∀e,nI bad v (L.drop i)= .error e-> ∀u' h',jD (λb=>b=rb) u h u' h'->KP (gu e) h')/\
 (∀a q,nI bad v (L.drop i)= .ok (a,q)-> ∀u' h' w i',jD (λb=>b=rb) u h u' h'->Af u' h' rb sl L bad i'->L.drop i'=q->lm h.size u' h' w a.2.1->K (.agg #[str a.1,w,Jx JT a.2.2]) h')
def akM:lq:=λf vs h K KP=>(f=13/\sJ vs h K KP)\/(f=52/\vD vs h KP)\/(f=53/\Bt vs h K)\/(f=18/\GQ vs h K KP)\/(f=14/\Br vs h KP)\/(f=54/\NL vs h K KP)
theorem acT:lQ Tryz.prog akM:=by
 rintro f vs h K KP (⟨rfl,hC⟩|⟨rfl,hC⟩|⟨rfl,hC⟩|⟨rfl,hC⟩|⟨rfl,hC⟩|⟨rfl,hC⟩)
 ·exact qA hC
 ·exact uB hC
 ·exact Ag hC
 ·exact EF hC
 ·exact xW hC
 ·exact LM hC
theorem EE{vs:List Value}{h:H}{K:Value->H->Prop}{KP:List PanicEntry->H->Prop}(hC:GN vs h K KP):kN Tryz.prog 17 vs h K KP:=by
 obtain⟨u,rb,sl,L,bad,i,v,rfl,hR,hKE,hKO⟩:=hC
 refine jJ 2310909627514093683 [((some (.c1 (.ldn 3) (.t 4))),(.o1 (.ldn 3) (.t 4)))] acT Tryz.func17 ?_
 have s1:=jD.qZ S0 u h #[str [],.slice none 0 0,Jx JT 0] 51
 have B1:=jR.new (u:=u) (h:=h) [str [],.slice none 0 0,Jx JT 0] 51
 obtain⟨h1,hh1⟩:=kg (h.push (.cells #[str [],.slice none 0 0,Jx JT 0] 51))
 obtain⟨u1,hu1⟩:=kg (ub u h.size 0)
 have B1':jR u1 h1 h.size [str [],.slice none 0 0,Jx JT 0]:=by rw[hu1,hh1];exact B1
 rw[<-hh1,<-hu1]at s1
 clear B1
 have hR1:=hR.sZ s1
 have hrb:rb<h.size:=hR.1.1
 have hLl:=hR.2.2.2
 have hne1:h.size≠rb:=zO
 have s1':jD (λb=>b=rb) u h u1 h1:=s1.mono (λ_ _ q=>q.elim)
 simp only[↓reduceIte,go_sem,<-hh1]
 refine jC (.inr (.inr (.inr (.inl ⟨rfl,u1,rb,sl,L,bad,i,1,rfl,hR1,λu2 h2 s2 hd=> ?_,λu2 h2 t r s2 hd hk=> ?_,λu2 h2 t r s2 hd hk h0=>absurd h0 zD,λu2 h2 t r s2 hd hk _ hR2=>⟨jO,?_⟩⟩))))
 ·exact hKE bad (by rw[hd,nI]) _ _ (s1'.tZ s2)
 ·exact hKE (kH t) (by rw[hd,uC hk]) _ _ (s1'.tZ s2)
 have st2:jD (λb=>b=rb) u h u2 h2:=s1'.trans s2 (λ_ _ q=>q)
 have B12:=B1'.step s2 hne1
 rw[hd]at hKE hKO
 obtain⟨hlt,hget,hd2⟩:=mD hd
 have hb1:h.size<h2.size:=bP B1'.1 s2.ge.sz
 obtain⟨h3,h4,u4,hh3,hh4,B3,B4,s4,hz4⟩:=rA u2 h2 [Jx JT 0,str [],Jx JT 0,Jx JT 0,Jx JT 0,Jx JT 0] (kU t) 46 rfl
 have B14:=B12.sZ s4
 have hR4:=hR2.sZ s4
 have st4:=st2.tZ s4
 obtain⟨h5,h6,u6,hh5,hh6,B5,B6,s6,hz6⟩:=rA u4 h4 [str [],.slice none 0 0,Jx JT 0] [str t.2.1,.slice none 0 0,Jx JT t.2.2.2.2.1] 51 rfl
 have B16:=B14.sZ s6
 have hR6:=hR4.sZ s6
 have st6:=st4.tZ s6
 simp only[kU]at hh4 B4 ⊢
 have B31:=B3.1
 have B41:=B4.1
 have B51:=B5.1
 have B61:=B6.1
 have hRb:=hR6.1.1
 simp(disch:=first|omega|simp only[zz];try omega;done) only[↓reduceIte,go_sem,<-hh3,<-hh4,B3.2.1,B3.2.2.1,B4.at,B4.2.1,<-hh5,<-hh6,B5.2.1,B5.2.2.1]
 refine jC (.inl ⟨rfl,u6,rb,sl,L,bad,i+1,rfl,hR6,λu7 h7 s7=>⟨λhd'=> ?_,λp q hd'=>⟨jO,?_⟩⟩⟩)
 ·rw[hd2]at hd'
  exact hKE bad (by rw[hd',LQ hk]) _ _ (st6.tZ s7)
 rw[hd2]at hd'
 subst hd'
 rw[QD hk]at hKE hKO
 have B17:=B16.sZ s7
 have B67:=B6.sZ s7
 have hR7:=hR6.sZ s7
 have st7:=st6.tZ s7
 have B671:=B67.1
 have B171:=B17.1
 have hRB7:=hR7.1
 have hRb7:=hRB7.1
 obtain⟨b6,hb6⟩:=kg h4.size
 have hbb6:h.size<b6:=by have:=B14.1;omega
 rw[<-hb6]at B67 B671 ⊢
 clear hh3 hh4 hh5 hh6 B3 B4 B31 B41 B51 B61 B5 B6 hh1
 simp only[kU]
 by_cases h5:tK p=5
 case neg=>
  rw[ah h5]at hKE hKO
  have w:=B17.sets (l:=[str t.2.1,.slice none 0 0,Jx JT t.2.2.2.2.1]) rfl
  have s8:=st7.rZ (b:=h.size) (o:=0) (l:=[str t.2.1,.slice none 0 0,Jx JT t.2.2.2.2.1]) (.inl (ak _)) (by rw[B17.2.2.2.1];exact aj _) (by rw[B17.2.1];exact ak _)
  have s78:=jD.sets (S:=λb=>b=h.size) u7 h7 (b:=h.size) (o:=0) [str t.2.1,.slice none 0 0,Jx JT t.2.2.2.2.1] rfl (by rw[B17.2.2.2.1];exact aj _) (by rw[B17.2.1];exact ak _)
  have hK':=hKO _ _ rfl _ _ _ _ s8 (hR7.step s78 (λq=>hne1 q.symm)) hd2 (.nil _ _ _)
  have h5': ¬p.1=5:=h5
  simp(disch:=first|omega|simp only[zz];try omega;done) only[↓reduceIte,go_sem,ae h5',B67.at,B67.2.1,B17.2.1,B17.2.2.1,w.at,w.2.1]
  exact hK'
 rw[af (by simp [h5])]at hKE hKO
 have h5':p.1=5:=h5
 obtain⟨hlt2,-,hd3⟩:=mD hd2
 obtain⟨h8,hh8,s8,hR8⟩:=hR7.adv hlt2
 have B18:=B17.step s8 hne1
 have B68:=B67.step s8 zO
 have st8:jD (λb=>b=rb) u h u7 h8:=st7.trans s8 (λb _ q=>q)
 obtain⟨R,hRR⟩: ∃R,rD bad v [] q=R:=⟨_,rfl⟩
 rw[hRR]at hKE hKO
 have hKE': ∀e,R= .error e-> ∀u' h',jD (λb=>b=rb) u h u' h'->KP (gu e) h':=λe he=>hKE e (by rw[he])
 have hKO': ∀a q,R= .ok (a,q)-> ∀u' h' w i',jD (λb=>b=rb) u h u' h'->Af u' h' rb sl L bad i'->L.drop i'=q->lm h.size u' h' w a->K (.agg #[str t.2.1,w,Jx JT t.2.2.2.2.1]) h':=λa q he=>hKO (tX t,a,tO t) q (by rw[he])
 clear hKE hKO
 simp(disch:=first|omega|simp only[zz];try omega;done) only[↓reduceIte,go_sem,ai h5',hRB7.at,hRB7.2.1,hRB7.2.2.1,<-hh8]
 obtain⟨I,hI⟩:=kg (α:=Nat->ku->H->Prop) λj σ h'=> ∃(u':U) (w:Value) (acc:List uQ),σ 0= .pointer (some ⟨rb,0,none⟩)/\σ 1= .bool v/\σ 4= .pointer (some ⟨h.size,0,none⟩)/\σ 6= .pointer (some ⟨b6,0,none⟩)/\jD (λb=>b=rb) u h u' h'/\Af u' h' rb sl L bad j/\jR u' h' h.size [str [],.slice none 0 0,Jx JT 0]/\jR u' h' b6 [str t.2.1,w,Jx JT t.2.2.2.2.1]/\lm h.size u' h' w acc/\(∀b,jL w b->b≠h.size/\b≠b6)/\acc.length<=8/\rD bad v acc (L.drop j)=R
 refine jE I (λj=>L.length - j) (i+1+1) (by rw[hI];exact⟨u7,_,[],zJ,zJ,zJ,zJ,st8,hR8,B18,B68,.nil _ _ _,λb ⟨_,_,_,q⟩=>(by cases q),zP,by rw[hd3];exact hRR⟩) ?_
 clear hb6 hd2 hd3 hd hRR st7 B17 hR7 st6 st4 st2 s1 s2 s4 s6 s7 s8 hR6 hR4 hR2 hR1 B12 B14 B16 B18 B68 hR8 st8 B1' hRB7 hRb7 hRb B67 B671 B171 hh8 hz4 hz6 hb1
 intro j σ h' hy
 rw[hI]at hy
 obtain⟨u',w,acc,e0,e1,e4,e6,st,hRj,B4j,B6j,ow,hwb,hacc,hA⟩:=hy
 obtain⟨wa,wc,rfl,m1,m2⟩:=ow.sl
 have hB4:=B4j.1
 have hB6:=B6j.1
 have hz:=st.ge.sz
 by_cases h8:8<=acc.length
 ·simp(disch:=first|omega|simp only[zz];try omega;done) only[↓reduceIte,go_sem,e0,e6,B6j.at,B6j.2.1,ai (show(8:Int)<=(acc.length:Nat) by omega)]
  refine jC (.inl ⟨rfl,u',rb,sl,L,bad,j,rfl,hRj,λu2 h2 s2=>⟨λhd=> ?_,λt2 r2 hd=>⟨jO,?_⟩⟩⟩)
  ·rw[hd,rD]at hA
   exact hKE' _ hA.symm _ _ (st.tZ s2)
  rw[hd,wB]at hA
  have hR2:=hRj.sZ s2
  have st2:=st.tZ s2
  simp only[kU]
  simp(disch:=omega) only[↓reduceIte,go_sem,e1]
  refine jC (.inr (.inr (.inl ⟨rfl,t2.1,v,rfl,⟨jO,?_⟩⟩)))
  have B62:=B6j.sZ s2
  have hB62:=B62.1
  cases hT:pK t2.1 v with
  |true=>
   rw[ah ⟨h8,hT⟩]at hA
   simp only[↓reduceIte,go_sem,e0]
   exact jC (.inr (.inr (.inr (.inr (.inl ⟨rfl,u2,rb,sl,L,bad,j,22,rfl,hR2,λu5 h5 s5=>⟨λq=>(uP hd q).elim,λt' r' hd'=>(by obtain⟨rfl,rfl⟩:=sI hd hd';exact hKE' _ hA.symm _ _ (st2.tZ s5))⟩⟩)))))
  |false=>
   rw[af (λq=>by have:=q.2;rw[show tK t2=t2.1 from rfl,hT]at this;cases this),ah (show pK (tK t2) v=false from hT)]at hA
   simp(disch:=first|omega|simp only[zz];try omega;done) only[↓reduceIte,go_sem,e0,e1,e6,B62.at,B62.2.1]
   exact jC (.inr (.inr (.inr (.inr (.inr ⟨rfl,u2,rb,sl,L,bad,j,v,rfl,hR2,λu5 h5 s5 q=>(uP hd q).elim,λu5 h5 t' r' s5 hd' hT'=>(by obtain⟨rfl,rfl⟩:=sI hd hd';exact hKE' _ hA.symm _ _ (st2.tZ s5)),λu5 h5 t' r' s5 hd' hT'=>(by obtain⟨rfl,rfl⟩:=sI hd hd';rw[show tK t2=t2.1 from rfl,hT]at hT';cases hT')⟩)))))
 ·simp(disch:=first|omega|simp only[zz];try omega;done) only[↓reduceIte,go_sem,e0,e1,e6,B6j.at,B6j.2.1,ae (show¬(8:Int)<=(acc.length:Nat) by omega)]
  refine jC (.inr (.inr (.inr (.inr (.inr ⟨rfl,u',rb,sl,L,bad,j,v,rfl,hRj,λu2 h2 s2 hd=> ?_,λu2 h2 t2 r2 s2 hd hT=> ?_,λu2 h2 t2 r2 s2 hd hT hR2=> ?_⟩)))))
  ·rw[hd,rD]at hA
   exact hKE' _ hA.symm _ _ (st.tZ s2)
  ·rw[hd,wB,af (λq=>h8 q.1),ah hT]at hA
   exact hKE' _ hA.symm _ _ (st.tZ s2)
  rw[hd,wB,af (λq=>h8 q.1),af (by simp [hT])]at hA
  have hwn: ∀b,jL (.slice wa acc.length wc) b->b≠rb:=λb q=>by have:=ow.ge q;omega
  have hb6r:b6≠rb:=zO
  have B62:=B6j.step s2 hb6r
  have B42:=B4j.step s2 hne1
  have ow2:=ow.step s2 (λb q q'=>hwn b q q')
  have hB62:=B62.1
  have hz2:h'.size<=h2.size:=s2.ge.sz
  refine⟨by simp(disch:=first|omega|simp only[zz];try omega;done) only[↓reduceIte,go_sem,e6,B6j.at,B62.at,B62.2.1],?_⟩
  obtain⟨x,hx⟩:=kg (kM t2)
  rw[<-hx]at hA ⊢
  simp only[tQ]
  simp(disch:=first|omega|simp only[zz];try omega;done) only[↓reduceIte,go_sem,e6,B62.at,B62.2.1]
  refine lD (by simp only[]) ow2 (x:=x) (by rw[Qz];rfl) rfl rfl zO zO λa3 n3 c3 u3 h3 o3 s3 hO3=>⟨jO,?_⟩
  obtain⟨_,_,hme,m31,m32⟩:=o3.sl
  simp only[Value.slice.injEq]at hme
  obtain⟨rfl,rfl,rfl⟩:=hme
  obtain⟨acc2,hacc2⟩:=kg (acc++[x])
  rw[<-hacc2]at hA o3 hO3 m31 ⊢
  have hl2:acc2.length=acc.length+1:=by rw[hacc2];simp
  have B63:=B62.step s3 (λq=>(hwb _ q).2 rfl)
  have B43:=B42.step s3 (λq=>(hwb _ q).1 rfl)
  have hR3:=hR2.step s3 (λq=>hwn _ q rfl)
  have hB63:=B63.1
  have hn3: ∀b,jL (.slice a3 acc2.length c3) b->b≠h.size/\b≠b6:=λb q=>(hO3 b q).elim (hwb b) (λz=>zO)
  have B64:=B63.set (i:=1) (v:= .slice a3 acc2.length c3) zP
  have s4:=jD.set (S:=λb=>b=b6) u3 h3 (b:=b6) (o:=1) (.slice a3 acc2.length c3) rfl (by rw[B63.2.2.2.1];exact aj _)
  obtain⟨h4,hh4⟩:=kg (ky h3 b6 1 (.slice a3 acc2.length c3))
  rw[<-hh4]at B64 s4
  simp only[dK,cu]at B64
  have o4:=o3.step s4 (λb q q'=>(hn3 b q).2 q')
  have B44:=B43.step s4 zO
  have hR4:=hR3.step s4 (λq=>hb6r q.symm)
  have st4:jD (λb=>b=rb) u h u3 h4:=((st.trans s2 (λ_ _ q=>q)).trans s3 (λb hb q=>by have:=ow.ge q;omega)).trans s4 (λb hb q=>zO)
  simp only[↓reduceIte,go_sem,e0,e6,B63.2.1,B63.2.2.1,<-hh4]
  refine jC (.inl ⟨rfl,u3,rb,sl,L,bad,j+1,rfl,hR4,λu5 h5 s5=>⟨λhd'=> ?_,λp q hd'=>⟨jO,?_⟩⟩⟩)
  ·have hd2:=(mD hd).2.2
   rw[hd2]at hd'
   subst hd'
   exact hKE' _ hA.symm _ _ (st4.tZ s5)
  have hd2:=(mD hd).2.2
  have hd2':=hd'
  rw[hd2]at hd'
  subst hd'
  simp only at hA
  obtain⟨hlt2,-,hd3⟩:=mD hd2'
  have hR5:=hR4.sZ s5
  have B65:=B64.sZ s5
  have B45:=B44.sZ s5
  have o5:=o4.sZ s5
  have st5:=st4.tZ s5
  have hRB5:=hR5.1
  have hRb5:=hRB5.1
  obtain⟨h6,hh6,s6,hR6⟩:=hR5.adv hlt2
  have B66:=B65.step s6 hb6r
  have B46:=B45.step s6 hne1
  have o6:=o5.step s6 (λb q q'=>by have:=o5.ge q;omega)
  have st6:jD (λb=>b=rb) u h u5 h6:=st5.trans s6 (λb _ q=>q)
  have hB66:=B66.1
  have hB46:=B46.1
  simp only[kU]
  by_cases h7:p.1=7
  ·rw[ah (show tK p=7 from h7)]at hA
   simp(disch:=first|omega|simp only[zz];try omega;done) only[↓reduceIte,go_sem,ai h7,e0,hRB5.at,hRB5.2.1,hRB5.2.2.1,<-hh6]
   refine⟨j+1+1,?_,zO⟩
   rw[hI]
   refine⟨u5,_,acc2,?_,?_,?_,?_,st6,hR6,B46,B66,o6,hn3,zO,by rw[hd3];exact hA⟩<;>simp [jI,e0,e1,e4,e6]
  rw[af (show¬tK p=7 from h7)]at hA
  by_cases h6':p.1=6
  ·rw[ah (show tK p=6 from h6')]at hA
   have w:=B46.sets (l:=[str t.2.1,.slice a3 acc2.length c3,Jx JT t.2.2.2.2.1]) rfl
   have s7:=st6.rZ (b:=h.size) (o:=0) (l:=[str t.2.1,.slice a3 acc2.length c3,Jx JT t.2.2.2.2.1]) (.inl (ak _)) (by rw[B46.2.2.2.1];exact aj _) (by rw[B46.2.1];exact ak _)
   have s67:=jD.sets (S:=λb=>b=h.size) u5 h6 (b:=h.size) (o:=0) [str t.2.1,.slice a3 acc2.length c3,Jx JT t.2.2.2.2.1] rfl (by rw[B46.2.2.2.1];exact aj _) (by rw[B46.2.1];exact ak _)
   have hK':=hKO' acc2 _ hA.symm _ _ _ _ s7 (hR6.step s67 (λq=>hne1 q.symm)) hd3 (o6.step s67 (λb q q'=>(hn3 b q).1 q'))
   simp(disch:=first|omega|simp only[zz];try omega;done) only[↓reduceIte,go_sem,ae h7,ai h6',e0,e4,e6,hRB5.at,hRB5.2.1,hRB5.2.2.1,<-hh6,B66.at,B66.2.1,B46.2.1,B46.2.2.1,w.at,w.2.1]
   exact hK'
  ·rw[af (show¬tK p=6 from h6')]at hA
   simp(disch:=omega) only[↓reduceIte,go_sem,ae h7,ae h6',e0]
   exact jC (.inr (.inl ⟨rfl,u5,rb,sl,L,bad,j+1,rfl,hR5,λu8 h8 s8=>⟨λq=>(uP hd2' q).elim,λt' r' hd'=>(by obtain⟨rfl,rfl⟩:=sI hd2' hd';exact hKE' _ hA.symm _ _ (st5.tZ s8))⟩⟩))
variable {vs:List Value} {h:H} {K:Value->H->Prop} {KP:List PanicEntry->H->Prop}
theorem CK(hC:xE Iy vs h K):kN Tryz.prog 117 vs h K KP:=by
 obtain⟨c,rfl,hK⟩:=hC
 refine jJ 5 [(none,(.t 2))] (G:=(λ_ _ _ _ _=>False)) (λ_ _ _ _ _ h=>h.elim) Tryz.func117 ?_
 simp only[↓reduceIte,go_sem,nE]
 exact kb (by unfold Iy;apply bS.2;simp;omega) hK
theorem Kv(hC:xE Iw vs h K):kN Tryz.prog 118 vs h K KP:=by
 obtain⟨c,rfl,hK⟩:=hC
 refine jJ 5 [(none,(.t 2))] (G:=(λ_ _ _ _ _=>False)) (λ_ _ _ _ _ h=>h.elim) Tryz.func118 ?_
 simp only[↓reduceIte,go_sem,nE]
 exact kb (by unfold Iw;apply bS.2;simp;omega) hK
theorem ze(hC:xE pg vs h K):kN Tryz.prog 120 vs h K KP:=by
 obtain⟨c,rfl,hK⟩:=hC
 refine jJ 5 [(none,(.t 2))] (G:=(λ_ _ _ _ _=>False)) (λ_ _ _ _ _ h=>h.elim) Tryz.func120 ?_
 simp only[↓reduceIte,go_sem,nE]
 exact kb (by unfold pg;apply bS.2;simp;omega) hK
def Ep:lq:=λf vs h K _=>(f=120/\xE pg vs h K)\/(f=117/\xE Iy vs h K)\/(f=118/\xE Iw vs h K)
theorem GG:lQ Tryz.prog Ep:=lY ze (lY CK (pX Kv))
theorem Ll(hC:xE zw vs h K):kN Tryz.prog 164 vs h K KP:=by
 obtain⟨c,rfl,hK⟩:=hC
 refine jJ 5 [(none,(.t 2))] GG Tryz.func164 ?_
 have e:zw c=(pg c || Iy c || Iw c || decide ((c:Int)=95)):=by
  have q:decide ((c:Int)=95)=decide (c=95):=decide_eq_decide.2 zO
  unfold zw;rw[q];cases pg c<;>cases Iw c<;>cases Iy c<;>simp
 rw[e]at hK
 cases h1:pg c<;>cases h2:Iy c<;>cases h3:Iw c<;>simp only[h1,h2,h3,iK,eF,ik,dZ]at hK<;>
  (simp only[↓reduceIte,go_sem,nE,Ep,xE,h1,h2,h3];exact hK)
def Xr(vs:List Value)(h:H)(K:Value->H->Prop):Prop:= ∃(s:List UInt8) (k:Nat),vs=[str s,Jx JT k]/\k<=s.length/\s.length<=65536/\K (Jx JT (oW s k)) h
def Hd:lq:=λf vs h K _=>(f=164/\xE zw vs h K)
theorem Xt:lQ Tryz.prog Hd:=pX Ll
theorem TV(hC:Xr vs h K):kN Tryz.prog 144 vs h K KP:=by
 obtain⟨s,k,rfl,hk,hl,hK⟩:=hC
 refine jJ 16403 [(none,(.t 4))] Xt Tryz.func144 ?_
 simp only[↓reduceIte,go_sem,nE]
 refine jE (fun(j:Nat) σ h'=>σ 0=str s/\σ 1= Jx JT j/\h'=h/\j<=s.length/\oW s j=oW s k) (λj=>s.length - j) k ⟨zJ,zJ,rfl,zO,rfl⟩ ?_
 rintro j σ h' ⟨e0,e1,rfl,hj,he⟩
 by_cases hlt:j<s.length
 ·cases hw:zw (kY s j)with
  |true=>
   simp(disch:=omega) only[↓reduceIte,go_sem,nE,e0,e1,hlt,qD,Hd,xE,hw]
   exact⟨j+1,zP,zO,(NB hlt hw).symm.trans he,zO⟩
  |false=>
   rw[Bi (by rw[hw];simp)]at he
   subst he
   simp(disch:=omega) only[↓reduceIte,go_sem,nE,e0,e1,hlt,qD,Hd,xE,hw]
   exact hK
 ·rw[Bi zO]at he
  subst he
  simp only[↓reduceIte,go_sem,nE,e0,e1,hlt,qD,Hd,xE]
  exact hK
def yB(vs:List Value)(h:H)(K:Value->H->Prop):Prop:= ∃(u:U) (c o:Int),vs=[Jx JT c,Jx JT o]/\ ∀u' h',jD S0 u h u' h'->K (.agg (jH c o).toArray) h'
theorem wO(hC:yB vs h K):kN Tryz.prog 93 vs h K KP:=by
 obtain⟨u,c,o,rfl,hK⟩:=hC
 refine jJ 19 [((some (.c1 (.ldn 3) (.t 4))),(.o1 (.ldn 3) (.t 4)))] (G:=(λ_ _ _ _ _=>False)) (λ_ _ _ _ _ h=>h.elim) Tryz.func93 ?_
 simp(disch:=omega) only[↓reduceIte,go_sem]
 exact hK _ _ zT
def Er:lq:=λf vs h K _=>(f=120/\xE pg vs h K)
theorem Xu:lQ Tryz.prog Er:=pX ze
theorem aeK(hC:XQ vs h K):kN Tryz.prog 165 vs h K KP:=by
 obtain⟨c,rfl,hc,hK⟩:=hC
 refine jJ 1049101 [(none,(.t 2))] Xu Tryz.func165 ?_
 rw[Qr,<-XP c hc]at hK
 cases hd:pg c with
 |true=>
  have hd':=hd
  unfold pg at hd';simp at hd'
  rw[hd,ah rfl]at hK
  simp(disch:=omega) only[↓reduceIte,go_sem,nE,Er,xE,hd,wr8]
  exact hK
 |false=>
  rw[hd]at hK
  simp only[aD,aW]at hK
  by_cases h1:97<=c/\c<=102
  ·rw[ah h1]at hK
   simp(disch:=omega) only[↓reduceIte,go_sem,nE,Er,xE,hd,ai (show(97:Int)<=(c:Int) by omega),ai (show(c:Int)<=102 by omega),wr8]
   exact hK
  ·rw[af h1]at hK
   by_cases h2:65<=c/\c<=70
   ·rw[ah h2]at hK
    simp(disch:=omega) only[↓reduceIte,go_sem,nE,Er,xE,hd,ae (show¬(97:Int)<=(c:Int) by omega),ai (show(65:Int)<=(c:Int) by omega),ai (show(c:Int)<=70 by omega),wr8]
    exact hK
   ·rw[af h2]at hK
    simp(disch:=omega) only[↓reduceIte,go_sem,nE,Er,xE,hd]
    exact⟨λh=>zO,λ_=>⟨λh=>zO,λ_=>hK⟩⟩
def aeL(vs:List Value)(h:H)(K:Value->H->Prop):Prop:= ∃(s:List UInt8) (k:Nat),vs=[str s,Jx JT k]/\k<s.length/\s.length<=65536/\K (.tuple #[.int .u8 (xP s k).1,Jx JT (xP s k).2]) h
def Xv:lq:=λf vs h K _=>(f=165/\XQ vs h K)
theorem Lm:lQ Tryz.prog Xv:=pX aeK
theorem TY(hC:aeL vs h K):kN Tryz.prog 146 vs h K KP:=by
 obtain⟨s,k,rfl,hk,hl,hK⟩:=hC
 refine jJ 1125900263408691 [(none,(.t 4)),(none,(.t 5))] Lm Tryz.func146 ?_ (by kernel_rfl) (by apply c0 rfl;repeat' first|apply cS|apply cK|apply cL|apply cX|(apply cC zD)|(conv=>lhs;cbv;try simp only[Kw]))
 unfold xP at hK
 by_cases h1:k+1<s.length
 case neg=>
  rw[yL (show s.length<=k+1 by omega)]at hK
  simp at hK
  simp(disch:=omega) only[↓reduceIte,go_sem,ai (show(s.length:Int)<=(k:Int)+1 by omega)]
  exact hK
 have e1:((k:Int)+1)=((k+1:Nat):Int):=zO
 have e2:((k:Int)+2)=((k+2:Nat):Int):=zO
 have e3:((k:Int)+3)=((k+3:Nat):Int):=zO
 have n1:(s.length<=k+1)=False:=ae zO
 obtain⟨c,hc⟩:=kg (kY s (k+1))
 rw[<-hc]at hK
 have hb:(s.getD (k+1) 0).toNat=c:=by rw[hc];rfl
 by_cases q0:c=34
 ·rw[ah q0]at hK
  subst q0
  simp(disch:=omega) only[↓reduceIte,go_sem,e1,n1,h1,hb,ae (show¬(s.length:Int)<=((k+1:Nat):Int) by omega)]
  exact hK
 rw[af q0]at hK
 by_cases q1:c=92
 ·rw[ah q1]at hK
  subst q1
  simp(disch:=omega) only[↓reduceIte,go_sem,e1,n1,h1,hb,ae (show¬(s.length:Int)<=((k+1:Nat):Int) by omega)]
  exact hK
 rw[af q1]at hK
 by_cases q2:c=110
 ·rw[ah q2]at hK
  subst q2
  simp(disch:=omega) only[↓reduceIte,go_sem,e1,n1,h1,hb,ae (show¬(s.length:Int)<=((k+1:Nat):Int) by omega)]
  exact hK
 rw[af q2]at hK
 by_cases q3:c=116
 ·rw[ah q3]at hK
  subst q3
  simp(disch:=omega) only[↓reduceIte,go_sem,e1,n1,h1,hb,ae (show¬(s.length:Int)<=((k+1:Nat):Int) by omega)]
  exact hK
 rw[af q3]at hK
 by_cases q4:c=114
 ·rw[ah q4]at hK
  subst q4
  simp(disch:=omega) only[↓reduceIte,go_sem,e1,n1,h1,hb,ae (show¬(s.length:Int)<=((k+1:Nat):Int) by omega)]
  exact hK
 rw[af q4]at hK
 by_cases q6:c=120
 ·rw[ah q6]at hK
  subst q6
  by_cases h3:k+3<s.length
  ·simp(disch:=omega) only[↓reduceIte,go_sem,e1,e2,e3,n1,h1,hb,h3,qD,ai (show k+2<s.length by omega),ae (show¬(s.length:Int)<=((k+1:Nat):Int) by omega)]
   refine jC ⟨rfl,kY s (k+2),rfl,zV _ _,⟨jO,?_⟩⟩
   unfold Qr
   cases ha:BN (kY s (k+2))with
   |none=>
    rw[ha]at hK
    simp only at hK
    simp(disch:=omega) only[↓reduceIte,go_sem,e1,e2,e3,h3]
    exact hK
   |some a=>
    simp(disch:=omega) only[↓reduceIte,go_sem,e1,e2,e3,n1,h1,h3,qD,ai (show k+2<s.length by omega)]
    refine jC ⟨rfl,kY s (k+3),rfl,zV _ _,⟨jO,?_⟩⟩
    unfold Qr
    cases hb:BN (kY s (k+3))with
    |none=>
     rw[ha,hb]at hK
     simp only at hK
     simp(disch:=omega) only[↓reduceIte,go_sem,e1,e2,e3,h3]
     exact hK
    |some b=>
     rw[ha,hb]at hK
     simp only at hK
     have ha':=GI ha;have hb':=GI hb
     simp(disch:=omega) only[↓reduceIte,go_sem,e1,e2,e3,n1,h1,h3,qD,ai (show k+2<s.length by omega)]
     refine jC ⟨rfl,kY s (k+2),rfl,zV _ _,⟨jO,?_⟩⟩
     unfold Qr
     rw[ha]
     simp(disch:=omega) only[↓reduceIte,go_sem,e1,e2,e3,h3]
     refine jC ⟨rfl,kY s (k+3),rfl,zV _ _,⟨jO,?_⟩⟩
     unfold Qr
     rw[hb]
     have ee:(16*(a:Int)+(b:Int))=((a*16+b:Nat):Int):=zO
     simp(disch:=omega) only[↓reduceIte,go_sem,ee,wr8]
     exact hK
  ·rw[yL (show s.length<=k+3 by omega)]at hK
   have hh:BN 0=none:=rfl
   rw[hh]at hK
   have hK:K (.tuple #[.int .u8 0,Jx JT 0]) h:=by revert hK;cases BN (kY s (k+2))<;>exact id
   simp(disch:=omega) only[↓reduceIte,go_sem,e1,e2,e3,n1,h1,hb,ae h3,qD,ae (show¬(s.length:Int)<=((k+1:Nat):Int) by omega)]
   exact hK
 ·rw[af q6]at hK
  simp(disch:=omega) only[↓reduceIte,go_sem,e1,n1,h1,hb,ae (show¬(s.length:Int)<=((k+1:Nat):Int) by omega),ae (show¬(c:Int)=34 by omega),ae (show¬(c:Int)=92 by omega),ae (show¬(c:Int)=110 by omega),ae (show¬(c:Int)=116 by omega),ae (show¬(c:Int)=114 by omega),ae (show¬(c:Int)=120 by omega)]
  exact hK
def AU(F:List UInt8->Nat->TR)(oV:List UInt8->Nat->Prop)(vs:List Value)(h:H)(K:Value->H->Prop):Prop:= ∃(u:U) (s:List UInt8) (k:Nat),vs=[str s,Jx JT k]/\k<=s.length/\s.length<=65536/\oV s k/\ ∀u' h',jD S0 u h u' h'->K (qw (F s k)) h'
def aeM:lq:=λf vs h K _=>(f=144/\Xr vs h K)\/(f=93/\yB vs h K)\/(f=117/\xE Iy vs h K)
theorem TZ:lQ Tryz.prog aeM:=lY TV (lY wO (pX CK))
theorem abv(hC:AU nP (λs k=>k<s.length/\zw (kY s k)=true) vs h K):kN Tryz.prog 119 vs h K KP:=by
 obtain⟨u,s,k,rfl,hk,hl,⟨hlt,hw⟩,hK⟩:=hC
 have hr1:=xQ hlt hw
 have hr2:=wV s k hk
 refine jJ 4565500147 [((some (.c1 (.ldn 6) (.t 4))),(.o1 (.ldn 6) (.t 4))),((some (.c1 (.ldn 3) (.t 5))),(.o1 (.ldn 3) (.t 5)))] TZ Tryz.func119 ?_
 have sp:jD S0 u h _ _:=jD.qZ S0 u h jV.toArray 46
 have T0:jR (ub u h.size 0) (h.push (.cells jV.toArray 46)) h.size jV:=jR.new jV _
 have sp1:=sp.pZ (c:=(jH 0 0).toArray) (t:=27)
 have T1:=T0.pZ (c:=(jH 0 0).toArray) (t:=27)
 have F1:=jR.new (u:=ub u h.size 0) (h:=h.push (.cells jV.toArray 46)) (jH 0 0) 27
 simp only[kw]at sp1 T1 F1
 simp(disch:=first|omega|simp only[zz];try omega;done) only[↓reduceIte,go_sem]
 refine jC (.inl ⟨rfl,s,k,rfl,hk,hl,⟨jO,?_⟩⟩)
 obtain⟨e,he⟩:=kg (oW s k)
 rw[<-he]at hr1 hr2 ⊢
 by_cases h64:64<e - k
 ·have hF:nP s k= .bad 14 k:=by unfold nP;rw[ah (by rw[<-he];exact h64)]
  rw[hF]at hK
  have sp2:=sp1.pZ (c:= #[Jx JT 2,str ((s.take e).drop k),Jx JT 0,Jx JT 0,Jx JT k,Jx JT e]) (t:=46)
  have T2:=T1.pZ (c:= #[Jx JT 2,str ((s.take e).drop k),Jx JT 0,Jx JT 0,Jx JT k,Jx JT e]) (t:=46)
  have F2:=F1.pZ (c:= #[Jx JT 2,str ((s.take e).drop k),Jx JT 0,Jx JT 0,Jx JT k,Jx JT e]) (t:=46)
  simp only[kw]at sp2 T2 F2
  simp(disch:=first|omega|simp only[zz];try omega;done) only[↓reduceIte,go_sem,ai (show(64:Int)<(e:Int) - (k:Int) by omega),ai hr2,ai (dQ hr1)]
  refine jC (.inr (.inl ⟨rfl,(ub (ub (ub u h.size 0) (h.size+1) 0) (h.size+1+1) 0),14,k,rfl,λu4 h4 s4=>⟨jO,?_⟩⟩))
  have T4:=T2.sZ s4
  have F4:=F2.sZ s4
  obtain⟨r1,r2,r3,-⟩:=mO (la:=jV) (lb:=jH 14 k) (sp2.tZ s4) T4 F4 zO zO zO rfl rfl
  have T41:=T4.1
  have F41:=F4.1
  simp only[jV,jH]at r1 r2 r3
  simp(disch:=first|omega|simp only[zz];try omega;done) only[↓reduceIte,go_sem,jV,jH,T4.2.1,T4.2.2.1,F4.2.1,F4.2.2.1,jP,jQ,r2.at,r3.at,r2.2.1,r3.2.1]
  exact hK _ _ r1
 ·have hsub:(s.take e).drop k=sub s k e:=rfl
  simp(disch:=first|omega|simp only[zz];try omega;done) only[↓reduceIte,go_sem,ae (show¬(64:Int)<(e:Int) - (k:Int) by omega),ai hr2,ai (dQ hr1),ai hlt,qD]
  refine jC (.inr (.inr ⟨rfl,kY s k,rfl,⟨jO,?_⟩⟩))
  by_cases hnot:sub s k e=[110,111,116]
  ·have hF:nP s k= .ok (10,[],0,0,k,e):=by unfold nP;rw[<-he,af h64,ah hnot]
   rw[hF]at hK
   unfold sub at hnot
   cases hlo:Iy (kY s k)with
   |true=>
    simp(disch:=first|omega|simp only[zz];try omega;done) only[↓reduceIte,go_sem,ai hnot]
    exact hK _ _ zT
   |false=>
    simp(disch:=first|omega|simp only[zz];try omega;done) only[↓reduceIte,go_sem,ai hnot]
    exact hK _ _ zT
  ·cases hlo:Iy (kY s k)with
   |true=>
    have hF:nP s k= .ok (1,sub s k e,0,0,k,e):=by unfold nP;rw[<-he,af h64,af hnot,ah hlo]
    rw[hF]at hK
    unfold sub at hnot hK
    simp(disch:=first|omega|simp only[zz];try omega;done) only[↓reduceIte,go_sem,ae hnot]
    exact hK _ _ zT
   |false=>
    have hF:nP s k= .ok (2,sub s k e,0,0,k,e):=by unfold nP;rw[<-he,af h64,af hnot,hlo];rfl
    rw[hF]at hK
    unfold sub at hnot hK
    simp(disch:=first|omega|simp only[zz];try omega;done) only[↓reduceIte,go_sem,ae hnot]
    exact hK _ _ zT
def aeN:lq:=λf vs h K _=>(f=114/\Bl vs h K)\/(f=93/\yB vs h K)
theorem Ua:lQ Tryz.prog aeN:=lY IJ (pX wO)
theorem abw(hC:AU uz (λs k=>k<s.length) vs h K):kN Tryz.prog 123 vs h K KP:=by
 obtain⟨u,s,k,rfl,hk,hl,hlt,hK⟩:=hC
 refine jJ 2635248447112372339 [((some (.c1 (.ldn 6) (.t 4))),(.o1 (.ldn 6) (.t 4))),((some (.c1 (.ldn 3) (.t 5))),(.o1 (.ldn 3) (.t 5)))] Ua Tryz.func123 ?_
 have sp:jD S0 u h _ _:=jD.qZ S0 u h jV.toArray 46
 have T0:jR (ub u h.size 0) (h.push (.cells jV.toArray 46)) h.size jV:=jR.new jV _
 have sp1:=sp.pZ (c:=(jH 0 0).toArray) (t:=27)
 have T1:=T0.pZ (c:=(jH 0 0).toArray) (t:=27)
 have F1:=jR.new (u:=ub u h.size 0) (h:=h.push (.cells jV.toArray 46)) (jH 0 0) 27
 simp only[kw]at sp1 T1 F1
 simp(disch:=first|omega|simp only[zz];try omega;done) only[↓reduceIte,go_sem]
 refine jC (.inl ⟨rfl,s,k,rfl,zO,zO,hl,⟨jO,?_⟩⟩)
 rw[dH]
 obtain⟨w,hw⟩:=kg (Gi s k)
 have ha: ∀a b:UInt8,(w=[a,b])=(pr s k a.toNat b.toNat=true):=λa b=>by rw[hw];exact akD s k a b
 rw[<-hw]
 unfold uz Pq at hK
 have ek:((k:Int)+2)=((k+2:Nat):Int):=zO
 have ek1:((k:Int)+1)=((k+1:Nat):Int):=zO
 have hc:(s.getD k 0).toNat=kY s k:=rfl
 obtain⟨c,hc'⟩:=kg (kY s k)
 rw[<-hc']at hK hc
 clear hc'
 by_cases q0:w=[58,45]
 ·rw[ah (show pr s k 58 45=true from(ha 58 45).mp q0)]at hK
  simp(disch:=first|omega|simp only[zz];try omega;done) only[↓reduceIte,go_sem,ek,ek1,ai q0]
  exact hK _ _ zT
 rw[af (fun(h:pr s k 58 45=true)=>q0 ((ha 58 45).mpr h))]at hK
 by_cases q1:w=[33,61]
 ·rw[ah (show pr s k 33 61=true from(ha 33 61).mp q1)]at hK
  simp(disch:=first|omega|simp only[zz];try omega;done) only[↓reduceIte,go_sem,ek,ek1,ae q0,ai q1]
  exact hK _ _ zT
 rw[af (fun(h:pr s k 33 61=true)=>q1 ((ha 33 61).mpr h))]at hK
 by_cases q2:w=[60,61]
 ·rw[ah (show pr s k 60 61=true from(ha 60 61).mp q2)]at hK
  simp(disch:=first|omega|simp only[zz];try omega;done) only[↓reduceIte,go_sem,ek,ek1,ae q0,ae q1,ai q2]
  exact hK _ _ zT
 rw[af (fun(h:pr s k 60 61=true)=>q2 ((ha 60 61).mpr h))]at hK
 by_cases q3:w=[62,61]
 ·rw[ah (show pr s k 62 61=true from(ha 62 61).mp q3)]at hK
  simp(disch:=first|omega|simp only[zz];try omega;done) only[↓reduceIte,go_sem,ek,ek1,ae q0,ae q1,ae q2,ai q3]
  exact hK _ _ zT
 rw[af (fun(h:pr s k 62 61=true)=>q3 ((ha 62 61).mpr h))]at hK
 by_cases p0:c=60
 ·rw[ah p0]at hK
  subst p0
  simp(disch:=first|omega|simp only[zz];try omega;done) only[↓reduceIte,go_sem,ek,ek1,hc,ai hlt,ae q0,ae q1,ae q2,ae q3]
  exact hK _ _ zT
 rw[af p0]at hK
 by_cases p1:c=62
 ·rw[ah p1]at hK
  subst p1
  simp(disch:=first|omega|simp only[zz];try omega;done) only[↓reduceIte,go_sem,ek,ek1,hc,ai hlt,ae q0,ae q1,ae q2,ae q3]
  exact hK _ _ zT
 rw[af p1]at hK
 by_cases p2:c=61
 ·rw[ah p2]at hK
  subst p2
  simp(disch:=first|omega|simp only[zz];try omega;done) only[↓reduceIte,go_sem,ek,ek1,hc,ai hlt,ae q0,ae q1,ae q2,ae q3]
  exact hK _ _ zT
 rw[af p2]at hK
 by_cases p3:c=40
 ·rw[ah p3]at hK
  subst p3
  simp(disch:=first|omega|simp only[zz];try omega;done) only[↓reduceIte,go_sem,ek,ek1,hc,ai hlt,ae q0,ae q1,ae q2,ae q3]
  exact hK _ _ zT
 rw[af p3]at hK
 by_cases p4:c=41
 ·rw[ah p4]at hK
  subst p4
  simp(disch:=first|omega|simp only[zz];try omega;done) only[↓reduceIte,go_sem,ek,ek1,hc,ai hlt,ae q0,ae q1,ae q2,ae q3]
  exact hK _ _ zT
 rw[af p4]at hK
 by_cases p5:c=44
 ·rw[ah p5]at hK
  subst p5
  simp(disch:=first|omega|simp only[zz];try omega;done) only[↓reduceIte,go_sem,ek,ek1,hc,ai hlt,ae q0,ae q1,ae q2,ae q3]
  exact hK _ _ zT
 rw[af p5]at hK
 by_cases p6:c=46
 ·rw[ah p6]at hK
  subst p6
  simp(disch:=first|omega|simp only[zz];try omega;done) only[↓reduceIte,go_sem,ek,ek1,hc,ai hlt,ae q0,ae q1,ae q2,ae q3]
  exact hK _ _ zT
 rw[af p6]at hK
 have sp2:=sp1.pZ (c:= #[Jx JT 11,str [],Jx JT 0,Jx JT 0,Jx JT k,Jx JT ((k+1:Nat):Int)]) (t:=46)
 have T2:=T1.pZ (c:= #[Jx JT 11,str [],Jx JT 0,Jx JT 0,Jx JT k,Jx JT ((k+1:Nat):Int)]) (t:=46)
 have F2:=F1.pZ (c:= #[Jx JT 11,str [],Jx JT 0,Jx JT 0,Jx JT k,Jx JT ((k+1:Nat):Int)]) (t:=46)
 simp only[kw]at sp2 T2 F2
 simp(disch:=first|omega|simp only[zz];try omega;done) only[↓reduceIte,go_sem,ek,ek1,hc,ai hlt,ae q0,ae q1,ae q2,ae q3,ae (show¬(c:Int)=60 by omega),ae (show¬(c:Int)=62 by omega),ae (show¬(c:Int)=61 by omega),ae (show¬(c:Int)=40 by omega),ae (show¬(c:Int)=41 by omega),ae (show¬(c:Int)=44 by omega),ae (show¬(c:Int)=46 by omega)]
 refine jC (.inr ⟨rfl,(ub (ub (ub u h.size 0) (h.size+1) 0) (h.size+1+1) 0),10,k,rfl,λu4 h4 s4=>⟨jO,?_⟩⟩)
 have T4:=T2.sZ s4
 have F4:=F2.sZ s4
 obtain⟨r1,r2,r3,-⟩:=mO (la:=jV) (lb:=jH 10 k) (sp2.tZ s4) T4 F4 zO zO zO rfl rfl
 have T41:=T4.1
 have F41:=F4.1
 simp only[jV,jH]at r1 r2 r3
 simp(disch:=first|omega|simp only[zz];try omega;done) only[↓reduceIte,go_sem,jV,jH,T4.2.1,T4.2.2.1,F4.2.1,F4.2.2.1,jP,jQ,r2.at,r3.at,r2.2.1,r3.2.1]
 exact hK _ _ r1
end Go.Proofs.Z
namespace Edict
def qx:List UInt8->List UInt8
 |[]=>[]
 |c::r=>if c=48 then qx r else c::r
def Kr(d b:List UInt8):Bool:=if(qx d).length=b.length then !(Go.Op.bytesLess (qx d) b || decide (qx d=b))else decide (b.length<(qx d).length)
theorem CJ: ∀(l:List UInt8) (a:Nat),yJ a l=a*10 ^ l.length+yJ 0 l
 |[],a=>by simp [yJ]
 |c::r,a=>by
  have h1:yJ a (c::r)=yJ (a*10+(c.toNat - 48)) r:=rfl
  have h2:yJ 0 (c::r)=yJ (0*10+(c.toNat - 48)) r:=rfl
  rw[h1,h2,CJ r,CJ r (0*10+_),au,jB,dJ,dJ]
  have:a*10*10 ^ r.length=a*(10 ^ r.length*10):=by rw[Nat.mul_assoc,jy 10]
  omega
theorem um(c:UInt8)(r:List UInt8):mX (c::r)=(c.toNat - 48)*10 ^ r.length+mX r:=by
 have h1:mX (c::r)=yJ (0*10+(c.toNat - 48)) r:=rfl
 rw[h1,CJ];simp [mX,yJ]
theorem yZ: ∀(l:List UInt8),(∀c∈l,pg c.toNat=true)->mX l<10 ^ l.length
 |[],_=>by decide
 |c::r,h=>by
  have h1:=yZ r (λx hx=>h x (by simp [hx]))
  have h2:=h c zP
  unfold pg at h2
  simp only[aM,aL]at h2
  rw[um,au,jB]
  have:(c.toNat - 48)*10 ^ r.length<=9*10 ^ r.length:=bU _ zO
  omega
theorem TS: ∀(x y:List UInt8),x.length=y.length->(∀c∈x,pg c.toNat=true)->(∀c∈y,pg c.toNat=true)->Go.Op.bytesLess x y=decide (mX x<mX y)
 |[],[],_,_,_=>by simp [Go.Op.bytesLess]
 |[],_::_,h,_,_=>by simp at h
 |_::_,[],h,_,_=>by simp at h
 |a::x,b::y,hl,hx,hy=>by
  have hl':x.length=y.length:=by simpa using hl
  have ih:=TS x y hl' (λc hc=>hx c (by simp [hc])) (λc hc=>hy c (by simp [hc]))
  have ha:=hx a zP;have hb:=hy b zP
  have h1:=yZ x (λc hc=>hx c (by simp [hc]))
  have h2:=yZ y (λc hc=>hy c (by simp [hc]))
  unfold pg at ha hb
  simp only[aM,aL]at ha hb
  rw[<-hl']at h2
  unfold Go.Op.bytesLess
  rw[ih,um,um,<-hl']
  apply bS.2
  simp only[dW,aM,aL,beq_iff_eq,UInt8.lt_iff_toNat_lt]
  by_cases hab:a=b
  ·subst hab
   simp only[true_and];omega
  ·have hab':a.toNat≠b.toNat:=λh=>hab (eH.1 h)
   simp only[hab,false_and,or_false]
   rcases gp a.toNat b.toNat with q|q
   ·have:(a.toNat - 48+1)*10 ^ x.length<=(b.toNat - 48)*10 ^ x.length:=bU _ zO
    rw[dJ]at this
    omega
   ·have:(b.toNat - 48+1)*10 ^ x.length<=(a.toNat - 48)*10 ^ x.length:=bU _ zO
    rw[dJ]at this
    omega
theorem Za: ∀(x y:List UInt8),x.length=y.length->(∀c∈x,pg c.toNat=true)->(∀c∈y,pg c.toNat=true)->mX x=mX y->x=y
 |[],[],_,_,_,_=>rfl
 |[],_::_,h,_,_,_=>by simp at h
 |_::_,[],h,_,_,_=>by simp at h
 |a::x,b::y,hl,hx,hy,he=>by
  have hl':x.length=y.length:=by simpa using hl
  have ha:=hx a zP;have hb:=hy b zP
  have h1:=yZ x (λc hc=>hx c (by simp [hc]))
  have h2:=yZ y (λc hc=>hy c (by simp [hc]))
  unfold pg at ha hb
  simp only[aM,aL]at ha hb
  rw[<-hl']at h2
  rw[um,um,<-hl']at he
  have hab:a.toNat=b.toNat:=by
   rcases Nat.lt_trichotomy a.toNat b.toNat with q|q|q
   ·have:(a.toNat - 48+1)*10 ^ x.length<=(b.toNat - 48)*10 ^ x.length:=bU _ zO
    rw[dJ]at this;omega
   ·exact q
   ·have:(b.toNat - 48+1)*10 ^ x.length<=(a.toNat - 48)*10 ^ x.length:=bU _ zO
    rw[dJ]at this;omega
  have hab':a=b:=eH.1 hab
  subst hab'
  rw[Za x y hl' (λc hc=>hx c (by simp [hc])) (λc hc=>hy c (by simp [hc])) zO]
theorem ML: ∀(l:List UInt8),mX (qx l)=mX l
 |[]=>rfl
 |c::r=>by
  unfold qx
  split
  ·rename_i h
   rw[ML r,um,h];simp
  ·rfl
theorem MM: ∀(l:List UInt8) (c:UInt8),c∈qx l->c∈l
 |[],c,h=>h
 |a::r,c,h=>by
  unfold qx at h
  split at h
  ·exact bg _ (MM r c h)
  ·exact h
theorem Kt: ∀(l:List UInt8),(∀c∈l,pg c.toNat=true)->qx l=[]\/10 ^ ((qx l).length - 1)<=mX (qx l)
 |[],_=> .inl rfl
 |a::r,h=>by
  unfold qx
  split
  ·exact Kt r (λc hc=>h c (by simp [hc]))
  ·rename_i hne
   right
   have ha:=h a zP
   unfold pg at ha
   simp only[aM,aL]at ha
   have:a.toNat≠48:=λq=>hne (eH.1 q)
   rw[um,au,Nat.add_sub_cancel]
   have:1*10 ^ r.length<=(a.toNat - 48)*10 ^ r.length:=bU _ zO
   omega
theorem abu{d b:List UInt8}(hd: ∀c∈d,pg c.toNat=true)(hb: ∀c∈b,pg c.toNat=true)(hb1:10 ^ (b.length - 1)<=mX b):Kr d b=decide (mX b<mX d):=by
 unfold Kr
 have hd': ∀c∈qx d,pg c.toNat=true:=λc hc=>hd c (MM d c hc)
 have hb2:=yZ b hb
 have hd2:=yZ (qx d) hd'
 have hz:=ML d
 rw[<-hz]
 split
 ·rename_i hl
  rw[TS _ _ hl hd' hb]
  apply bS.2
  simp only[iD,dx,decide_eq_false_iff_not,aL]
  constructor
  ·rintro ⟨h1,h2⟩
   have:mX (qx d)≠mX b:=λh=>h2 (Za _ _ hl hd' hb h)
   omega
  ·intro h
   exact⟨zO,λe=>by rw[e]at h;omega⟩
 ·rename_i hl
  apply decide_eq_decide.2
  constructor
  ·intro h
   rcases Kt d hd with q|q
   ·rw[q]at h;simp at h
   ·have:10 ^ b.length<=10 ^ ((qx d).length - 1):=jk zD zO
    omega
  ·intro h
   rcases gp b.length (qx d).length with q|q
   ·exact q
   ·have:10 ^ (qx d).length<=10 ^ (b.length - 1):=jk zD zO
    omega
theorem TT{d:List UInt8}{i:Nat}:mX (d.take i)<=mX d:=by
 have h:mX d=yJ (mX (d.take i)) (d.drop i):=by
  unfold mX yJ
  rw[<-fJ,bV]
 rw[h];exact Nv _ _
theorem MN{d:List UInt8}{i:Nat}(h:i<d.length):mX (d.take (i+1))=mX (d.take i)*10+((d.getD i 0).toNat - 48):=by
 have hx:d[i]? =some d[i]:=by simp [h]
 rw[aX,hx]
 unfold mX
 rw[fJ]
 simp [aG,h]
end Edict
namespace Go.Proofs.Z
open Go Go.Ev Edict
variable {vs:List Value} {h:H} {K:Value->H->Prop} {KP:List PanicEntry->H->Prop}
def Zb(vs:List Value)(h:H)(K:Value->H->Prop):Prop:= ∃(d b:List UInt8),vs=[str d,str b]/\d.length<=65536/\b.length<=65536/\K (.bool (Kr d b)) h
theorem Xo(hC:Zb vs h K):kN Tryz.prog 145 vs h K KP:=by
 obtain⟨d,b,rfl,hd,hb,hK⟩:=hC
 refine jJ 528403 [(none,(.t 4))] (G:=(λ_ _ _ _ _=>False)) (λ_ _ _ _ _ h=>h.elim) Tryz.func145 ?_
 simp only[go_sem]
 refine jE (fun(t:List UInt8) σ h'=>σ 0=str t/\σ 1=str b/\h'=h/\t.length<=65536/\qx t=qx d) (λt=>t.length) d ⟨zJ,zJ,rfl,hd,rfl⟩ ?_
 rintro t σ h' ⟨e0,e1,rfl,htl,hz⟩
 have done:qx t=t->(t.length≠b.length->K (.bool (decide (b.length<t.length))) h')/\(t.length=b.length->K (.bool (!(Op.bytesLess t b || decide (t=b)))) h'):=by
  intro hq
  unfold Kr at hK
  rw[<-hz,hq]at hK
  exact⟨λq=>by rw[af q]at hK;exact hK,λq=>by rw[ah q]at hK;exact hK⟩
 have fin:qx t=t->(decide (((b.length:Nat):Int)<((t.length:Nat):Int)))=decide (b.length<t.length):=λ_=>decide_eq_decide.2 zO
 cases t with
 |nil=>
  have dn:=done rfl
  by_cases q:([]:List UInt8).length=b.length
  ·have dn:=dn.2 q
   simp only[↓reduceIte,go_sem,e0,e1,ai (show((0:Int))=((b.length:Nat):Int) by simp only[aA]at q;omega)]
   exact dn
  ·have dn:=dn.1 q
   have f:=fin rfl
   simp only[aA]at f dn q
   have f':decide (((b.length:Nat):Int)<0)=decide (b.length<0):=f
   simp only[↓reduceIte,go_sem,e0,e1,ae (show¬((0:Int))=((b.length:Nat):Int) by omega)]
   exact dn
 |cons c r=>
  have hc:((c::r).getD 0 0)=c:=rfl
  by_cases h48:c=48
  ·have h2:(c.toNat:Int)=48:=by rw[h48];rfl
   simp only[au]at htl
   simp only[↓reduceIte,go_sem,e0,e1,hc,h2,ai (show(0:Int)<((r.length+1:Nat):Int) by omega)]
   exact⟨zO,zO,by rw[<-hz,h48];rfl,zO⟩
  ·have hdz:qx (c::r)=c::r:=by unfold qx;rw[af h48]
   have h2: ¬(c.toNat:Int)=48:=λq=>h48 (eH.1 (by show c.toNat=48;omega))
   have dn:=done hdz
   have f:=fin hdz
   by_cases q:(c::r).length=b.length
   ·have dn:=dn.2 q
    simp only[↓reduceIte,go_sem,e0,e1,hc,ae h2]
    exact⟨λh=>h,λh=>absurd q h,λ_=>dn⟩
   ·have dn:=dn.1 q
    simp only[↓reduceIte,go_sem,e0,e1,hc,ae h2]
    exact⟨λh=>h,λ_=>dn,λh=>absurd q h⟩
def aeJ(vs:List Value)(h:H)(K:Value->H->Prop):Prop:= ∃(u:U) (s:List UInt8) (o b:Nat),vs=[str s,Jx JT o,Jx JT b]/\o<=b/\b<s.length/\s.length<=65536/\pg (kY s b)=true/\ ∀u' h',jD S0 u h u' h'->K (qw (si s o b)) h'
def TU:lq:=λf vs h K _=>(f=144/\Xr vs h K)\/(f=93/\yB vs h K)\/(f=120/\xE pg vs h K)\/(f=145/\Zb vs h K)
theorem Ku:lQ Tryz.prog TU:=lY TV (lY wO (lY ze (pX Xo)))
def Xq(neg:Bool):List UInt8:=if neg then [57,50,50,51,51,55,50,48,51,54,56,53,52,55,55,53,56,48,56]else [57,50,50,51,51,55,50,48,51,54,56,53,52,55,55,53,56,48,55]
theorem ahm(neg:Bool):(∀c∈Xq neg,pg c.toNat=true)/\10 ^ ((Xq neg).length - 1)<=mX (Xq neg)/\mX (Xq neg)=if neg then 9223372036854775808 else 9223372036854775807:=by cases neg<;>exact⟨zD,zD,zD⟩
theorem Pn(hC:aeJ vs h K):kN Tryz.prog 121 vs h K KP:=by
 obtain⟨u,s,o,b,rfl,hob,hbl,hl,hdg,hK⟩:=hC
 have hr1:=xQ hbl (by unfold zw;rw[hdg];rfl)
 have hr2:=wV s b zO
 refine jJ 4645574201589703 [((some (.c1 (.ldn 6) (.t 6))),(.o1 (.ldn 6) (.t 6))),((some (.c1 (.ldn 3) (.t 7))),(.o1 (.ldn 3) (.t 7)))] Ku Tryz.func121 ?_
 have sp:jD S0 u h _ _:=jD.qZ S0 u h jV.toArray 46
 have T0:jR (ub u h.size 0) (h.push (.cells jV.toArray 46)) h.size jV:=jR.new jV _
 have sp1:=sp.pZ (c:=(jH 0 0).toArray) (t:=27)
 have T1:=T0.pZ (c:=(jH 0 0).toArray) (t:=27)
 have F1:=jR.new (u:=ub u h.size 0) (h:=h.push (.cells jV.toArray 46)) (jH 0 0) 27
 simp only[kw]at sp1 T1 F1
 simp only[↓reduceIte,go_sem]
 refine jC (.inl ⟨rfl,s,b,rfl,zO,hl,⟨jO,?_⟩⟩)
 obtain⟨e,he⟩:=kg (oW s b)
 rw[<-he]at hr1 hr2 ⊢
 simp only[↓reduceIte,go_sem,jN]
 obtain⟨h1,hh1⟩:=kg ((h.push (.cells jV.toArray 46)).push (.cells (jH 0 0).toArray 27))
 rw[<-hh1]at sp1 T1 F1
 simp only[jV,jH]at hh1
 rw[<-hh1]
 clear sp T0
 obtain⟨u1,hu1⟩:=kg (ub (ub u h.size 0) (h.size+1) 0)
 rw[<-hu1]at sp1 T1 F1
 clear hu1
 have T11:=T1.1;have F11:=F1.1
 obtain⟨I,hI⟩:=kg (α:=Nat->ku->H->Prop) λj σ h'=>σ 0=str s/\σ 1= Jx JT o/\σ 2= Jx JT b/\σ 6= .pointer (some ⟨h.size,0,none⟩)/\σ 7= .pointer (some ⟨h.size+1,0,none⟩)/\σ 8= Jx JT e/\σ 9= Jx JT j/\h'=h1/\b<=j/\j<=e/\ ∀i,b<=i->i<j->pg (kY s i)=true
 refine jE I (λj=>e - j) b (by
  rw[hI]
  exact⟨zJ,zJ,zJ,zJ,zJ,zJ,zJ,rfl,zO,zO,λi h1 h2=>zO⟩) ?_
 intro j σ h' hy
 rw[hI]at hy
 obtain⟨e0,e1,e2,e6,e7,e8,e9,rfl,hbj,hje,hall⟩:=hy
 clear hh1
 by_cases hj:j<e
 ·simp only[↓reduceIte,go_sem,e0,e8,e9,ai hj,ai (show j<s.length by omega),qD]
  refine jC (.inr (.inr (.inl ⟨rfl,kY s j,rfl,⟨jO,?_⟩⟩)))
  cases hd:pg (kY s j)with
  |true=>
   simp(disch:=omega) only[↓reduceIte,go_sem,e9]
   refine⟨j+1,?_,zO⟩
   rw[hI]
   exact⟨by simp [jI,e0],by simp [jI,e1],by simp [jI,e2],by simp [jI,e6],by simp [jI,e7],by simp [jI,e8],zJ,rfl,zO,zO,λi q1 q2=>by
    by_cases q:i=j
    ·rw[q];exact hd
    ·exact hall i q1 zO⟩
  |false=>
   have hbad:si s o b= .bad 13 o:=Nt (by
    rw[<-he]
    cases hq:zS s b e with
    |false=>rfl
    |true=>have:=(vz hr2).1 hq j hbj hj;rw[hd]at this;cases this)
   rw[hbad]at hK
   simp only[↓reduceIte,go_sem,e1]
   refine jC (.inr (.inl ⟨rfl,u1,13,o,rfl,λu4 h4 s4=>⟨jO,?_⟩⟩))
   have T4:=T1.sZ s4
   have F4:=F1.sZ s4
   obtain⟨r1,r2,r3,-⟩:=mO (la:=jV) (lb:=jH 13 o) (sp1.tZ s4) T4 F4 zO zO zO rfl rfl
   have T41:=T4.1
   have F41:=F4.1
   simp only[jV,jH]at r1 r2 r3
   simp(disch:=first|omega|simp only[zz];try omega;done) only[↓reduceIte,go_sem,e6,e7,jV,jH,T4.2.1,T4.2.2.1,F4.2.1,F4.2.2.1,jP,jQ,r2.at,r3.at,r2.2.1,r3.2.1]
   exact hK _ _ r1
 ·obtain rfl:j=e:=zO
  have hdall:zS s b j=true:=(vz hr2).2 hall
  obtain⟨d,hd⟩:=kg (sub s b j)
  have hdd: ∀c∈d,pg c.toNat=true:=by rw[hd];exact λc hc=>(bI.1 hdall) c hc
  have hdl:d.length=j - b:=by rw[hd];exact Dn hr2
  have hd':(s.take j).drop b=d:=by rw[hd];rfl
  have hie:si s o b=if(if o<b then mX d<=9223372036854775808 else mX d<=9223372036854775807)then .ok (3,[],if o<b then -(mX d:Int)else(mX d:Int),0,o,j)else .bad 13 o:=by
   unfold si
   rw[<-he,ah hdall,<-hd]
   by_cases q:o<b
   ·simp only[ah q]
   ·simp only[af q]
  obtain⟨neg,hneg⟩:=kg (α:=Bool) (decide (o<b))
  obtain⟨bk1,bk2,bk3⟩:=ahm neg
  have hab:=abu hdd bk1 bk2
  have hbk:Kr d (Xq neg)= !decide (if o<b then mX d<=9223372036854775808 else mX d<=9223372036854775807):=by
   rw[hab,bk3,hneg]
   by_cases q:o<b
   ·simp only[ah q,bq q,bv]
    apply bS.2;simp
   ·simp only[af q,aI q,aD,aW]
    apply bS.2;simp
  have step: ∀(σ':ku),σ' 0=str s->σ' 1= Jx JT o->σ' 2= Jx JT b->σ' 6= .pointer (some ⟨h.size,0,none⟩)->True:=λ_ _ _ _ _=>trivial
  clear step
  by_cases hob2:o<b
  ·rw[show neg=true from by rw[hneg];exact bq hob2]at hbk bk1 bk2 bk3 hab
   simp only[ah hob2]at hie hbk
   simp only[↓reduceIte,go_sem,e0,e1,e2,e8,e9,hd',ai (show b<=j by omega),ai hr2,ai (show(o:Int)<(b:Int) by omega)]
   refine jC (.inr (.inr (.inr ⟨rfl,d,Xq true,rfl,zO,zD,⟨jO,?_⟩⟩)))
   by_cases hlim:mX d<=9223372036854775808
   ·rw[ah hlim]at hie
    rw[hie]at hK
    rw[hbk,bq hlim]
    obtain⟨h0,hh0⟩:=kg h'
    subst hh0
    simp only[↓reduceIte,go_sem]
    obtain⟨J,hJ⟩:=kg (α:=Nat->ku->H->Prop) λi σ h'=>σ 1= Jx JT o/\σ 2= Jx JT b/\σ 6= .pointer (some ⟨h.size,0,none⟩)/\σ 7= .pointer (some ⟨h.size+1,0,none⟩)/\σ 8= Jx JT j/\σ 10=str d/\σ 12= Jx JT (-(mX (List.take i d):Int))/\σ 13= Jx JT i/\h'=h0/\i<=d.length
    refine jE J (λi=>d.length - i) 0 (by
     rw[hJ]
     exact⟨by simp [jI,e1],by simp [jI,e2],by simp [jI,e6],by simp [jI,e7],by simp [jI,e8],zJ,by simp [jI,mX],zJ,rfl,zO⟩) ?_
    clear hI I e0 e1 e2 e6 e7 e8 e9
    intro i σ1 h2 hy
    rw[hJ]at hy
    obtain⟨e1,e2,e6,e7,e8,e10,e12,e13,rfl,hi⟩:=hy
    by_cases hlt:i<d.length
    ·have hsn:=MN hlt
     have hle:=TT (d:=d) (i:=i+1)
     have hm:d[i]∈d:=gP hlt
     have hc:=hdd _ hm
     have hcg:d.getD i 0=d[i]:=by simp [aG,hlt]
     obtain⟨c,hcc⟩:=kg ((d.getD i 0).toNat)
     rw[<-hcc]at hsn
     rw[<-hcg,<-hcc]at hc
     unfold pg at hc
     simp only[aM,aL]at hc
     simp(disch:=omega) only[↓reduceIte,go_sem,e1,e2,e10,e12,e13,hlt,<-hcc,ai (show(o:Int)<(b:Int) by omega),wr8,aie]
     refine⟨i+1,?_,zO⟩
     rw[hJ]
     exact⟨by simp [jI,e1],by simp [jI,e2],by simp [jI,e6],by simp [jI,e7],by simp [jI,e8],by simp [jI,e10],by simp only[jI];simp;omega,zJ,rfl,zO⟩
    ·obtain rfl:i=d.length:=zO
     rw[aK]at e12
     obtain⟨r1,r2,r3,-⟩:=mO (la:=[Jx JT 3,str [],Jx JT (-(mX d:Int)),Jx JT 0,Jx JT o,Jx JT j]) (lb:=jH 0 0) sp1 T1 F1 zO zO zO rfl rfl
     have T12:=T1.2.1
     have F12:=F1.2.1
     simp only[jV,jH,au,aA]at r1 r2 r3 T12 F12
     simp(disch:=first|omega|simp only[zz];try omega;done) only[↓reduceIte,go_sem,e1,e6,e7,e8,e10,e12,e13,T12,T1.2.2.1,F12,F1.2.2.1,jP,jQ,r2.at,r3.at,r2.2.1,r3.2.1]
     exact hK _ _ r1
   ·rw[af hlim]at hie
    rw[hie]at hK
    rw[hbk,aI hlim]
    simp only[↓reduceIte,go_sem,e1]
    refine jC (.inr (.inl ⟨rfl,u1,13,o,rfl,λu4 h4 s4=>⟨jO,?_⟩⟩))
    have T4:=T1.sZ s4
    have F4:=F1.sZ s4
    obtain⟨r1,r2,r3,-⟩:=mO (la:=jV) (lb:=jH 13 o) (sp1.tZ s4) T4 F4 zO zO zO rfl rfl
    have T41:=T4.1
    have F41:=F4.1
    simp only[jV,jH]at r1 r2 r3
    simp(disch:=first|omega|simp only[zz];try omega;done) only[↓reduceIte,go_sem,e6,e7,jV,jH,T4.2.1,T4.2.2.1,F4.2.1,F4.2.2.1,jP,jQ,r2.at,r3.at,r2.2.1,r3.2.1]
    exact hK _ _ r1
  ·rw[show neg=false from by rw[hneg];exact aI hob2]at hbk bk1 bk2 bk3 hab
   simp only[af hob2]at hie hbk
   simp only[↓reduceIte,go_sem,e0,e1,e2,e8,e9,hd',ai (show b<=j by omega),ai hr2,ae (show¬(o:Int)<(b:Int) by omega)]
   refine jC (.inr (.inr (.inr ⟨rfl,d,Xq false,rfl,zO,zD,⟨jO,?_⟩⟩)))
   by_cases hlim:mX d<=9223372036854775807
   ·rw[ah hlim]at hie
    rw[hie]at hK
    rw[hbk,bq hlim]
    obtain⟨h0,hh0⟩:=kg h'
    subst hh0
    simp only[↓reduceIte,go_sem]
    obtain⟨J,hJ⟩:=kg (α:=Nat->ku->H->Prop) λi σ h'=>σ 1= Jx JT o/\σ 2= Jx JT b/\σ 6= .pointer (some ⟨h.size,0,none⟩)/\σ 7= .pointer (some ⟨h.size+1,0,none⟩)/\σ 8= Jx JT j/\σ 10=str d/\σ 12= Jx JT ((mX (List.take i d):Int))/\σ 13= Jx JT i/\h'=h0/\i<=d.length
    refine jE J (λi=>d.length - i) 0 (by
     rw[hJ]
     exact⟨by simp [jI,e1],by simp [jI,e2],by simp [jI,e6],by simp [jI,e7],by simp [jI,e8],zJ,by simp [jI,mX],zJ,rfl,zO⟩) ?_
    clear hI I e0 e1 e2 e6 e7 e8 e9
    intro i σ1 h2 hy
    rw[hJ]at hy
    obtain⟨e1,e2,e6,e7,e8,e10,e12,e13,rfl,hi⟩:=hy
    by_cases hlt:i<d.length
    ·have hsn:=MN hlt
     have hle:=TT (d:=d) (i:=i+1)
     have hm:d[i]∈d:=gP hlt
     have hc:=hdd _ hm
     have hcg:d.getD i 0=d[i]:=by simp [aG,hlt]
     obtain⟨c,hcc⟩:=kg ((d.getD i 0).toNat)
     rw[<-hcc]at hsn
     rw[<-hcg,<-hcc]at hc
     unfold pg at hc
     simp only[aM,aL]at hc
     simp(disch:=omega) only[↓reduceIte,go_sem,e1,e2,e10,e12,e13,hlt,<-hcc,ae (show¬(o:Int)<(b:Int) by omega),wr8,aie]
     refine⟨i+1,?_,zO⟩
     rw[hJ]
     exact⟨by simp [jI,e1],by simp [jI,e2],by simp [jI,e6],by simp [jI,e7],by simp [jI,e8],by simp [jI,e10],by simp only[jI];simp;omega,zJ,rfl,zO⟩
    ·obtain rfl:i=d.length:=zO
     rw[aK]at e12
     obtain⟨r1,r2,r3,-⟩:=mO (la:=[Jx JT 3,str [],Jx JT ((mX d:Int)),Jx JT 0,Jx JT o,Jx JT j]) (lb:=jH 0 0) sp1 T1 F1 zO zO zO rfl rfl
     have T12:=T1.2.1
     have F12:=F1.2.1
     simp only[jV,jH,au,aA]at r1 r2 r3 T12 F12
     simp(disch:=first|omega|simp only[zz];try omega;done) only[↓reduceIte,go_sem,e1,e6,e7,e8,e10,e12,e13,T12,T1.2.2.1,F12,F1.2.2.1,jP,jQ,r2.at,r3.at,r2.2.1,r3.2.1]
     exact hK _ _ r1
   ·rw[af hlim]at hie
    rw[hie]at hK
    rw[hbk,aI hlim]
    simp only[↓reduceIte,go_sem,e1]
    refine jC (.inr (.inl ⟨rfl,u1,13,o,rfl,λu4 h4 s4=>⟨jO,?_⟩⟩))
    have T4:=T1.sZ s4
    have F4:=F1.sZ s4
    obtain⟨r1,r2,r3,-⟩:=mO (la:=jV) (lb:=jH 13 o) (sp1.tZ s4) T4 F4 zO zO zO rfl rfl
    have T41:=T4.1
    have F41:=F4.1
    simp only[jV,jH]at r1 r2 r3
    simp(disch:=first|omega|simp only[zz];try omega;done) only[↓reduceIte,go_sem,e6,e7,jV,jH,T4.2.1,T4.2.2.1,F4.2.1,F4.2.2.1,jP,jQ,r2.at,r3.at,r2.2.1,r3.2.1]
    exact hK _ _ r1
end Go.Proofs.Z
namespace Go.Proofs.Z
open Go Go.Ev Edict
variable {vs:List Value} {h:H} {K:Value->H->Prop} {KP:List PanicEntry->H->Prop}
def Xm:lq:=λf vs h K _=>(f=146/\aeL vs h K)\/(f=93/\yB vs h K)
theorem Lj:lQ Tryz.prog Xm:=lY TY (pX wO)
theorem TP(hC:AU (λs k=>og s k (k+1) []) (λs k=>k<s.length) vs h K):kN Tryz.prog 122 vs h K KP:=by
 obtain⟨u,s,k,rfl,hk,hl,hlt,hK⟩:=hC
 have hK: ∀u' h',jD S0 u h u' h'->K (qw (og s k (k+1) [])) h':=hK
 refine jJ 4574243788424179 [((some (.c1 (.ldn 6) (.t 4))),(.o1 (.ldn 6) (.t 4))),((some (.c1 (.ldn 3) (.t 5))),(.o1 (.ldn 3) (.t 5)))] Lj Tryz.func122 ?_
 have sp:jD S0 u h _ _:=jD.qZ S0 u h jV.toArray 46
 have T0:jR (ub u h.size 0) (h.push (.cells jV.toArray 46)) h.size jV:=jR.new jV _
 have sp1:=sp.pZ (c:=(jH 0 0).toArray) (t:=27)
 have T1:=T0.pZ (c:=(jH 0 0).toArray) (t:=27)
 have F1:=jR.new (u:=ub u h.size 0) (h:=h.push (.cells jV.toArray 46)) (jH 0 0) 27
 simp only[kw]at sp1 T1 F1
 simp(disch:=omega) only[↓reduceIte,go_sem]
 obtain⟨I,hI⟩:=kg (α:=Nat×List UInt8->ku->H->Prop) λx σ h'=>σ 0=str s/\σ 1= Jx JT k/\σ 4= .pointer (some ⟨h.size,0,none⟩)/\σ 5= .pointer (some ⟨h.size+1,0,none⟩)/\σ 7= Jx JT x.1/\k<x.1/\x.1<=s.length/\x.2.length<=255/\og s k x.1 x.2=og s k (k+1) []/\
   ∃u',jD S0 u h u' h'/\jR u' h' h.size jV/\jR u' h' (h.size+1) (jH 0 0)/\lm (h.size+2) u' h' (σ 6) x.2
 refine jE I (λx=>s.length - x.1) (k+1,[]) (by
  rw[hI]
  exact⟨zJ,zJ,zJ,zJ,zJ,zP,by simp only;omega,zP,rfl,_,sp1,T1,F1,by simpa [jI]using lm.nil _ _ _⟩) ?_
 clear sp T0 sp1 T1 F1
 rintro ⟨i,acc⟩ σ h1 hy
 rw[hI]at hy
 obtain⟨e0,e1,e4,e5,e7,hki,hi,hal,hF,u1,st,T,F,ho⟩:=hy
 simp only at hki hi hal hF ho e7
 rw[<-hF]at hK
 have hT1:=T.1;have hF1:=F.1
 obtain⟨oa,oc,hoe,ho1,ho2⟩:=ho.sl
 have ei:(i:Int)+1=((i+1:Nat):Int):=zO
 by_cases h32:i<s.length/\32<=kY s i
 ·obtain⟨hil,h32⟩:=h32
  by_cases h34:kY s i=34
  ·rw[XO hil h34]at hK
   obtain⟨r1,r2,r3,r4⟩:=mO (la:=[Jx JT 4,str acc,Jx JT 0,Jx JT 0,Jx JT k,Jx JT ((i+1:Nat))]) (lb:=jH 0 0) st T F zO zO zO rfl rfl
   have T22:=T.2.1
   have F22:=F.2.1
   simp only[jV,jH,au,aA]at r1 r2 r3 T22 F22
   simp only[↓reduceIte,go_sem,e0,e7,ai hil,qD,ai (show(kY s i:Int)=34 by omega),ae (show¬(kY s i:Int)<32 by omega),ae (show¬(s.length:Int)<=(i:Int) by omega)]
   refine Qm ho ⟨jO,?_⟩
   simp(disch:=first|omega|simp only[zz];try omega;done) only[↓reduceIte,go_sem,e1,e4,e5,e7,ei,T22,T.2.2.1,F22,F.2.2.1,jP,jQ,r2.at,r3.at,r2.2.1,r3.2.1]
   exact hK _ _ r1
  ·by_cases h92:kY s i=92
   ·rw[GJ hil h92]at hK
    simp only[↓reduceIte,go_sem,e0,e7,qD,ai hil,ae (show¬(kY s i:Int)=34 by omega),ai (show(kY s i:Int)=92 by omega),ae (show¬(kY s i:Int)<32 by omega),ae (show¬(s.length:Int)<=(i:Int) by omega)]
    refine jC (.inl ⟨rfl,s,i,rfl,hil,hl,⟨jO,?_⟩⟩)
    have hesc:=Dm s i
    have hc256:=Qs s i
    obtain⟨⟨c,n⟩,hcn⟩: ∃x,x=xP s i:=⟨_,rfl⟩
    rw[<-hcn]at hK hesc hc256 ⊢
    simp only at hK hesc hc256 ⊢
    by_cases hn0:n=0
    ·rw[ah hn0]at hK
     simp(disch:=omega) only[↓reduceIte,go_sem,e7,ai (show(n:Int)=0 by omega)]
     refine jC (.inr ⟨rfl,u1,12,i,rfl,λu4 h4 s4=>⟨jO,?_⟩⟩)
     have T4:=T.sZ s4
     have F4:=F.sZ s4
     obtain⟨r1,r2,r3,-⟩:=mO (la:=jV) (lb:=jH 12 i) (st.tZ s4) T4 F4 zO zO zO rfl rfl
     have T41:=T4.1
     have F41:=F4.1
     simp only[jV,jH]at r1 r2 r3
     simp(disch:=first|omega|simp only[zz];try omega;done) only[↓reduceIte,go_sem,e4,e5,jV,jH,T4.2.1,T4.2.2.1,F4.2.1,F4.2.2.1,jP,jQ,r2.at,r3.at,r2.2.1,r3.2.1]
     exact hK _ _ r1
    ·rw[af hn0]at hK
     by_cases h255:acc.length=255
     ·rw[ah h255]at hK
      simp(disch:=omega) only[↓reduceIte,go_sem,e1,hoe,ae (show¬(n:Int)=0 by omega),ai (show(acc.length:Int)=255 by omega)]
      refine jC (.inr ⟨rfl,u1,15,k,rfl,λu4 h4 s4=>⟨jO,?_⟩⟩)
      have T4:=T.sZ s4
      have F4:=F.sZ s4
      obtain⟨r1,r2,r3,-⟩:=mO (la:=jV) (lb:=jH 15 k) (st.tZ s4) T4 F4 zO zO zO rfl rfl
      have T41:=T4.1
      have F41:=F4.1
      simp only[jV,jH]at r1 r2 r3
      simp(disch:=first|omega|simp only[zz];try omega;done) only[↓reduceIte,go_sem,e4,e5,jV,jH,T4.2.1,T4.2.2.1,F4.2.1,F4.2.2.1,jP,jQ,r2.at,r3.at,r2.2.1,r3.2.1]
      exact hK _ _ r1
     ·rw[af h255]at hK
      have hnx:og s k i acc=og s k (i+n) (acc++[UInt8.ofNat c]):=by rw[GJ hil h92,<-hcn];simp only;rw[af hn0,af h255]
      simp(disch:=omega) only[↓reduceIte,go_sem,hoe,ae (show¬(n:Int)=0 by omega),ae (show¬(acc.length:Int)=255 by omega)]
      rw[<-hoe]
      refine lM (k:=h.size+2) (x:=UInt8.ofNat (c)) (cs:=[.int .u8 (c:Nat)]) ho (by rw[zR,Bh hc256]) rfl rfl zO zO λa n' k' u2 h2 ho2 s2=>⟨jO,?_⟩
      have hnb: ∀q,jL (σ 6) q->h.size+2<=q:=λq hq=>ho.ge hq
      have T2:=T.step s2 (λhq=>by have:=hnb _ hq;omega)
      have F2:=F.step s2 (λhq=>by have:=hnb _ hq;omega)
      have st2:=st.trans s2 (λq hq hQ=>by have:=hnb _ hQ;omega)
      simp(disch:=omega) only[↓reduceIte,go_sem,e7]
      refine⟨(i+(n),acc++[UInt8.ofNat (c)]),?_,by simp only;omega⟩
      rw[hI]
      exact⟨by simp [jI,e0],by simp [jI,e1],by simp [jI,e4],by simp [jI,e5],zJ,by simp only;omega,by simp only;omega,by simp;omega,hnx.symm.trans hF,u2,st2,T2,F2,by simpa [jI]using ho2⟩
   ·rw[Nw hil h32 h34 h92]at hK
    have hc256:=zV s i
    by_cases h255:acc.length=255
    ·rw[ah h255]at hK
     simp only[↓reduceIte,go_sem,e0,e1,e7,hoe,qD,ai hil,ae (show¬(kY s i:Int)=34 by omega),ae (show¬(kY s i:Int)=92 by omega),ae (show¬(kY s i:Int)<32 by omega),ae (show¬(s.length:Int)<=(i:Int) by omega),ai (show(acc.length:Int)=255 by omega)]
     refine jC (.inr ⟨rfl,u1,15,k,rfl,λu4 h4 s4=>⟨jO,?_⟩⟩)
     have T4:=T.sZ s4
     have F4:=F.sZ s4
     obtain⟨r1,r2,r3,-⟩:=mO (la:=jV) (lb:=jH 15 k) (st.tZ s4) T4 F4 zO zO zO rfl rfl
     have T41:=T4.1
     have F41:=F4.1
     simp only[jV,jH]at r1 r2 r3
     simp(disch:=first|omega|simp only[zz];try omega;done) only[↓reduceIte,go_sem,e4,e5,jV,jH,T4.2.1,T4.2.2.1,F4.2.1,F4.2.2.1,jP,jQ,r2.at,r3.at,r2.2.1,r3.2.1]
     exact hK _ _ r1
    ·rw[af h255]at hK
     have hnx:og s k i acc=og s k (i+1) (acc++[UInt8.ofNat (kY s i)]):=by rw[Nw hil h32 h34 h92,af h255]
     simp only[↓reduceIte,go_sem,e0,e7,hoe,qD,ai hil,ae (show¬(kY s i:Int)=34 by omega),ae (show¬(kY s i:Int)=92 by omega),ae (show¬(kY s i:Int)<32 by omega),ae (show¬(s.length:Int)<=(i:Int) by omega),ae (show¬(acc.length:Int)=255 by omega)]
     rw[<-hoe]
     refine lM (k:=h.size+2) (x:=UInt8.ofNat (kY s i)) (cs:=[.int .u8 (kY s i:Nat)]) ho (by rw[zR,Bh hc256]) rfl rfl zO zO λa n' k' u2 h2 ho2 s2=>⟨jO,?_⟩
     have hnb: ∀q,jL (σ 6) q->h.size+2<=q:=λq hq=>ho.ge hq
     have T2:=T.step s2 (λhq=>by have:=hnb _ hq;omega)
     have F2:=F.step s2 (λhq=>by have:=hnb _ hq;omega)
     have st2:=st.trans s2 (λq hq hQ=>by have:=hnb _ hQ;omega)
     simp(disch:=omega) only[↓reduceIte,go_sem,e7]
     refine⟨(i+(1),acc++[UInt8.ofNat (kY s i)]),?_,by simp only;omega⟩
     rw[hI]
     exact⟨by simp [jI,e0],by simp [jI,e1],by simp [jI,e4],by simp [jI,e5],zJ,by simp only;omega,by simp only;omega,by simp;omega,hnx.symm.trans hF,u2,st2,T2,F2,by simpa [jI]using ho2⟩
 ·rw[Bg h32]at hK
  by_cases hil:i<s.length
  ·simp only[↓reduceIte,go_sem,e0,e1,e7,qD,ai hil,ai (show(kY s i:Int)<32 by omega),ae (show¬(s.length:Int)<=(i:Int) by omega)]
   refine jC (.inr ⟨rfl,u1,11,k,rfl,λu4 h4 s4=>⟨jO,?_⟩⟩)
   have T4:=T.sZ s4
   have F4:=F.sZ s4
   obtain⟨r1,r2,r3,-⟩:=mO (la:=jV) (lb:=jH 11 k) (st.tZ s4) T4 F4 zO zO zO rfl rfl
   have T41:=T4.1
   have F41:=F4.1
   simp only[jV,jH]at r1 r2 r3
   simp(disch:=first|omega|simp only[zz];try omega;done) only[↓reduceIte,go_sem,e4,e5,jV,jH,T4.2.1,T4.2.2.1,F4.2.1,F4.2.2.1,jP,jQ,r2.at,r3.at,r2.2.1,r3.2.1]
   exact hK _ _ r1
  ·simp only[↓reduceIte,go_sem,e0,e1,e7,qD,ai (show(s.length:Int)<=(i:Int) by omega)]
   refine jC (.inr ⟨rfl,u1,11,k,rfl,λu4 h4 s4=>⟨jO,?_⟩⟩)
   have T4:=T.sZ s4
   have F4:=F.sZ s4
   obtain⟨r1,r2,r3,-⟩:=mO (la:=jV) (lb:=jH 11 k) (st.tZ s4) T4 F4 zO zO zO rfl rfl
   have T41:=T4.1
   have F41:=F4.1
   simp only[jV,jH]at r1 r2 r3
   simp(disch:=first|omega|simp only[zz];try omega;done) only[↓reduceIte,go_sem,e4,e5,jV,jH,T4.2.1,T4.2.2.1,F4.2.1,F4.2.2.1,jP,jQ,r2.at,r3.at,r2.2.1,r3.2.1]
   exact hK _ _ r1
def abr:lq:=λf vs h K _=>(f=117/\xE Iy vs h K)\/(f=118/\xE Iw vs h K)\/(f=120/\xE pg vs h K)\/(f=119/\AU nP (λs k=>k<s.length/\zw (kY s k)=true) vs h K)\/
 (f=121/\aeJ vs h K)\/(f=122/\AU (λs k=>og s k (k+1) []) (λs k=>k<s.length) vs h K)\/(f=123/\AU uz (λs k=>k<s.length) vs h K)
theorem Pm:lQ Tryz.prog abr:=lY CK (lY Kv (lY ze (lY abv (lY Pn (lY TP (pX abw))))))
theorem Xn(hC:AU xw (λ_ _=>True) vs h K):kN Tryz.prog 95 vs h K KP:=by
 obtain⟨u,s,k,rfl,hk,hl,-,hK⟩:=hC
 refine jJ 147573961402949567603 [((some (.c1 (.ldn 6) (.t 4))),(.o1 (.ldn 6) (.t 4))),((some (.c1 (.ldn 3) (.t 5))),(.o1 (.ldn 3) (.t 5)))] Pm Tryz.func95 ?_
 have sp:jD S0 u h _ _:=jD.qZ S0 u h jV.toArray 46
 have T0:jR (ub u h.size 0) (h.push (.cells jV.toArray 46)) h.size jV:=jR.new jV _
 have sp1:=sp.pZ (c:=(jH 0 0).toArray) (t:=27)
 have T1:=T0.pZ (c:=(jH 0 0).toArray) (t:=27)
 have F1:=jR.new (u:=ub u h.size 0) (h:=h.push (.cells jV.toArray 46)) (jH 0 0) 27
 simp only[kw]at sp1 T1 F1
 by_cases hlt:k<s.length
 case neg=>
  have ht:xw s k= .ok (0,[],0,0,k,k):=by unfold xw;rw[ah zO]
  rw[ht]at hK
  simp(disch:=first|omega|simp only[zz];try omega;done) only[↓reduceIte,go_sem,ai (show(s.length:Int)<=(k:Int) by omega)]
  exact hK _ _ zT
 rw[acy hlt]at hK
 obtain⟨c,hc⟩:=kg (kY s k)
 have hbc:(s.getD k 0).toNat=c:=by rw[hc];rfl
 rw[<-hc]at hK
 have hc1:((k:Int)+1)=((k+1:Nat):Int):=zO
 simp only[↓reduceIte,go_sem,ae (show¬(s.length:Int)<=(k:Int) by omega),hlt,hbc]
 refine jC (.inl ⟨rfl,c,rfl,⟨jO,?_⟩⟩)
 have word:zw c=true-> ¬(c=45/\pg (kY s (k+1))=true)->pg c=false->(∀u' h',jD S0 u h u' h'->K (qw (nP s k)) h'):=λq1 q2 q3=>by
  rw[q3]at hK;simp only[aD,aW]at hK
  rw[af q2,q1]at hK;simpa using hK
 cases h1:Iy c with
 |true=>
  have hd:pg c=false:=by unfold Iy at h1;unfold pg;simp at h1 ⊢;omega
  have hK:=word (by unfold zw;rw[h1];simp) (by rintro ⟨q,-⟩;rw[q]at h1;simp [Iy]at h1) hd
  simp only[↓reduceIte,go_sem,jN]
  refine jC (.inr (.inr (.inr (.inl ⟨rfl,(ub (ub u h.size 0) (h.size+1) 0),s,k,rfl,hk,hl,⟨hlt,by rw[<-hc];unfold zw;rw[h1];simp⟩,λu3 h3 s3=> ?_⟩))))
  have st3:=sp1.tZ s3
  have T3:=T1.sZ s3
  have F3:=F1.sZ s3
  have T31:=T3.1
  have F31:=F3.1
  have T32:=T3.2.1
  have F32:=F3.2.1
  simp only[jV,jH,au,aA]at T32 F32
  cases hr:nP s k with
  |ok t=>
   rw[hr]at hK
   obtain⟨r1,r2,r3,r4⟩:=mO (la:=kU t) (lb:=jH 0 0) st3 T3 F3 zO zO zO rfl rfl
   simp only[kU,jH]at r1 r2 r3
   refine⟨jO,?_⟩
   simp only[qw,kU,jH]
   simp(disch:=first|omega|simp only[zz];try omega;done) only[↓reduceIte,go_sem,T32,T3.2.2.1,F32,F3.2.2.1,jP,jQ,r2.at,r3.at,r2.2.1,r3.2.1]
   exact hK _ _ r1
  |bad c o'=>
   rw[hr]at hK
   obtain⟨r1,r2,r3,-⟩:=mO (la:=jV) (lb:=jH c o') st3 T3 F3 zO zO zO rfl rfl
   simp only[jV,jH]at r1 r2 r3
   refine⟨jO,?_⟩
   simp only[qw,jV,jH]
   simp(disch:=first|omega|simp only[zz];try omega;done) only[↓reduceIte,go_sem,T32,T3.2.2.1,F32,F3.2.2.1,jP,jQ,r2.at,r3.at,r2.2.1,r3.2.1]
   exact hK _ _ r1
 |false=>
  simp only[↓reduceIte,go_sem,jN]
  refine jC (.inr (.inl ⟨rfl,c,rfl,⟨jO,?_⟩⟩))
  cases h2:Iw c with
  |true=>
   have hd:pg c=false:=by unfold Iw at h2;unfold pg;simp at h2 ⊢;omega
   have hK:=word (by unfold zw;rw[h2];simp) (by rintro ⟨q,-⟩;rw[q]at h2;simp [Iw]at h2) hd
   simp only[↓reduceIte,go_sem,jN]
   refine jC (.inr (.inr (.inr (.inl ⟨rfl,(ub (ub u h.size 0) (h.size+1) 0),s,k,rfl,hk,hl,⟨hlt,by rw[<-hc];unfold zw;rw[h2];simp⟩,λu3 h3 s3=> ?_⟩))))
   have st3:=sp1.tZ s3
   have T3:=T1.sZ s3
   have F3:=F1.sZ s3
   have T31:=T3.1
   have F31:=F3.1
   have T32:=T3.2.1
   have F32:=F3.2.1
   simp only[jV,jH,au,aA]at T32 F32
   cases hr:nP s k with
   |ok t=>
    rw[hr]at hK
    obtain⟨r1,r2,r3,r4⟩:=mO (la:=kU t) (lb:=jH 0 0) st3 T3 F3 zO zO zO rfl rfl
    simp only[kU,jH]at r1 r2 r3
    refine⟨jO,?_⟩
    simp only[qw,kU,jH]
    simp(disch:=first|omega|simp only[zz];try omega;done) only[↓reduceIte,go_sem,T32,T3.2.2.1,F32,F3.2.2.1,jP,jQ,r2.at,r3.at,r2.2.1,r3.2.1]
    exact hK _ _ r1
   |bad c o'=>
    rw[hr]at hK
    obtain⟨r1,r2,r3,-⟩:=mO (la:=jV) (lb:=jH c o') st3 T3 F3 zO zO zO rfl rfl
    simp only[jV,jH]at r1 r2 r3
    refine⟨jO,?_⟩
    simp only[qw,jV,jH]
    simp(disch:=first|omega|simp only[zz];try omega;done) only[↓reduceIte,go_sem,T32,T3.2.2.1,F32,F3.2.2.1,jP,jQ,r2.at,r3.at,r2.2.1,r3.2.1]
    exact hK _ _ r1
  |false=>
   by_cases h95:c=95
   ·have hK:=word (by unfold zw;rw[h95];simp) (by rintro ⟨q,-⟩;omega) (by rw[h95];decide)
    simp only[↓reduceIte,go_sem,ai (show(c:Int)=95 by omega)]
    refine jC (.inr (.inr (.inr (.inl ⟨rfl,(ub (ub u h.size 0) (h.size+1) 0),s,k,rfl,hk,hl,⟨hlt,by rw[<-hc];unfold zw;rw[h95];simp⟩,λu3 h3 s3=> ?_⟩))))
    have st3:=sp1.tZ s3
    have T3:=T1.sZ s3
    have F3:=F1.sZ s3
    have T31:=T3.1
    have F31:=F3.1
    have T32:=T3.2.1
    have F32:=F3.2.1
    simp only[jV,jH,au,aA]at T32 F32
    cases hr:nP s k with
    |ok t=>
     rw[hr]at hK
     obtain⟨r1,r2,r3,r4⟩:=mO (la:=kU t) (lb:=jH 0 0) st3 T3 F3 zO zO zO rfl rfl
     simp only[kU,jH]at r1 r2 r3
     refine⟨jO,?_⟩
     simp only[qw,kU,jH]
     simp(disch:=first|omega|simp only[zz];try omega;done) only[↓reduceIte,go_sem,T32,T3.2.2.1,F32,F3.2.2.1,jP,jQ,r2.at,r3.at,r2.2.1,r3.2.1]
     exact hK _ _ r1
    |bad c o'=>
     rw[hr]at hK
     obtain⟨r1,r2,r3,-⟩:=mO (la:=jV) (lb:=jH c o') st3 T3 F3 zO zO zO rfl rfl
     simp only[jV,jH]at r1 r2 r3
     refine⟨jO,?_⟩
     simp only[qw,jV,jH]
     simp(disch:=first|omega|simp only[zz];try omega;done) only[↓reduceIte,go_sem,T32,T3.2.2.1,F32,F3.2.2.1,jP,jQ,r2.at,r3.at,r2.2.1,r3.2.1]
     exact hK _ _ r1
   ·simp only[↓reduceIte,go_sem,ae (show¬(c:Int)=95 by omega)]
    refine jC (.inr (.inr (.inl ⟨rfl,c,rfl,⟨jO,?_⟩⟩)))
    cases hd:pg c with
    |true=>
     rw[hd,ah rfl]at hK
     simp only[↓reduceIte,go_sem,jN]
     refine jC (.inr (.inr (.inr (.inr (.inl ⟨rfl,(ub (ub u h.size 0) (h.size+1) 0),s,k,k,rfl,ak _,hlt,hl,by rw[<-hc];exact hd,λu3 h3 s3=> ?_⟩)))))
     have st3:=sp1.tZ s3
     have T3:=T1.sZ s3
     have F3:=F1.sZ s3
     have T31:=T3.1
     have F31:=F3.1
     have T32:=T3.2.1
     have F32:=F3.2.1
     simp only[jV,jH,au,aA]at T32 F32
     cases hr:si s k k with
     |ok t=>
      rw[hr]at hK
      obtain⟨r1,r2,r3,r4⟩:=mO (la:=kU t) (lb:=jH 0 0) st3 T3 F3 zO zO zO rfl rfl
      simp only[kU,jH]at r1 r2 r3
      refine⟨jO,?_⟩
      simp only[qw,kU,jH]
      simp(disch:=first|omega|simp only[zz];try omega;done) only[↓reduceIte,go_sem,T32,T3.2.2.1,F32,F3.2.2.1,jP,jQ,r2.at,r3.at,r2.2.1,r3.2.1]
      exact hK _ _ r1
     |bad c o'=>
      rw[hr]at hK
      obtain⟨r1,r2,r3,-⟩:=mO (la:=jV) (lb:=jH c o') st3 T3 F3 zO zO zO rfl rfl
      simp only[jV,jH]at r1 r2 r3
      refine⟨jO,?_⟩
      simp only[qw,jV,jH]
      simp(disch:=first|omega|simp only[zz];try omega;done) only[↓reduceIte,go_sem,T32,T3.2.2.1,F32,F3.2.2.1,jP,jQ,r2.at,r3.at,r2.2.1,r3.2.1]
      exact hK _ _ r1
    |false=>
     have hw:zw c=false:=by unfold zw;rw[hd,h2,h1,aI h95];rfl
     rw[hd]at hK
     simp only[aD,aW]at hK
     have rest: ¬(c=45/\pg (kY s (k+1))=true)-> ∀u' h',jD S0 u h u' h'->K (qw (if c=34 then og s k (k+1) []else uz s k)) h':=λq=>by
      rw[af q,hw]at hK;simpa using hK
     by_cases hm:c=45
     ·by_cases hl1:k+1<s.length
      ·simp(disch:=omega) only[↓reduceIte,go_sem,ai (show(c:Int)=45 by omega),hc1,hl1,qD]
       refine jC (.inr (.inr (.inl ⟨rfl,kY s (k+1),rfl,⟨jO,?_⟩⟩)))
       cases hd1:pg (kY s (k+1))with
       |true=>
        rw[ah ⟨hm,hd1⟩]at hK
        simp(disch:=omega) only[↓reduceIte,go_sem,ai (show(c:Int)=45 by omega),hc1,hl1]
        refine jC (.inr (.inr (.inr (.inr (.inl ⟨rfl,(ub (ub u h.size 0) (h.size+1) 0),s,k,k+1,rfl,zO,hl1,hl,hd1,λu3 h3 s3=> ?_⟩)))))
        have st3:=sp1.tZ s3
        have T3:=T1.sZ s3
        have F3:=F1.sZ s3
        have T31:=T3.1
        have F31:=F3.1
        have T32:=T3.2.1
        have F32:=F3.2.1
        simp only[jV,jH,au,aA]at T32 F32
        cases hr:si s k (k+1)with
        |ok t=>
         rw[hr]at hK
         obtain⟨r1,r2,r3,r4⟩:=mO (la:=kU t) (lb:=jH 0 0) st3 T3 F3 zO zO zO rfl rfl
         simp only[kU,jH]at r1 r2 r3
         refine⟨jO,?_⟩
         simp only[qw,kU,jH]
         simp(disch:=first|omega|simp only[zz];try omega;done) only[↓reduceIte,go_sem,T32,T3.2.2.1,F32,F3.2.2.1,jP,jQ,r2.at,r3.at,r2.2.1,r3.2.1]
         exact hK _ _ r1
        |bad c o'=>
         rw[hr]at hK
         obtain⟨r1,r2,r3,-⟩:=mO (la:=jV) (lb:=jH c o') st3 T3 F3 zO zO zO rfl rfl
         simp only[jV,jH]at r1 r2 r3
         refine⟨jO,?_⟩
         simp only[qw,jV,jH]
         simp(disch:=first|omega|simp only[zz];try omega;done) only[↓reduceIte,go_sem,T32,T3.2.2.1,F32,F3.2.2.1,jP,jQ,r2.at,r3.at,r2.2.1,r3.2.1]
         exact hK _ _ r1
       |false=>
        have hK:=rest (by rw[hd1];simp)
        rw[af zO]at hK
        simp(disch:=omega) only[↓reduceIte,go_sem,ai (show(c:Int)=45 by omega),ae (show¬(c:Int)=34 by omega),hc1,hl1]
        refine jC (.inr (.inr (.inr (.inr (.inr (.inr ⟨rfl,(ub (ub u h.size 0) (h.size+1) 0),s,k,rfl,hk,hl,hlt,λu3 h3 s3=> ?_⟩))))))
        have st3:=sp1.tZ s3
        have T3:=T1.sZ s3
        have F3:=F1.sZ s3
        have T31:=T3.1
        have F31:=F3.1
        have T32:=T3.2.1
        have F32:=F3.2.1
        simp only[jV,jH,au,aA]at T32 F32
        cases hr:uz s k with
        |ok t=>
         rw[hr]at hK
         obtain⟨r1,r2,r3,r4⟩:=mO (la:=kU t) (lb:=jH 0 0) st3 T3 F3 zO zO zO rfl rfl
         simp only[kU,jH]at r1 r2 r3
         refine⟨jO,?_⟩
         simp only[qw,kU,jH]
         simp(disch:=first|omega|simp only[zz];try omega;done) only[↓reduceIte,go_sem,T32,T3.2.2.1,F32,F3.2.2.1,jP,jQ,r2.at,r3.at,r2.2.1,r3.2.1]
         exact hK _ _ r1
        |bad c o'=>
         rw[hr]at hK
         obtain⟨r1,r2,r3,-⟩:=mO (la:=jV) (lb:=jH c o') st3 T3 F3 zO zO zO rfl rfl
         simp only[jV,jH]at r1 r2 r3
         refine⟨jO,?_⟩
         simp only[qw,jV,jH]
         simp(disch:=first|omega|simp only[zz];try omega;done) only[↓reduceIte,go_sem,T32,T3.2.2.1,F32,F3.2.2.1,jP,jQ,r2.at,r3.at,r2.2.1,r3.2.1]
         exact hK _ _ r1
      ·have hK:=rest (by rw[yL (show s.length<=k+1 by omega)];simp [pg])
       rw[af zO]at hK
       simp(disch:=omega) only[↓reduceIte,go_sem,ai (show(c:Int)=45 by omega),ae (show¬(c:Int)=34 by omega),hc1,ae hl1]
       refine jC (.inr (.inr (.inr (.inr (.inr (.inr ⟨rfl,(ub (ub u h.size 0) (h.size+1) 0),s,k,rfl,hk,hl,hlt,λu3 h3 s3=> ?_⟩))))))
       have st3:=sp1.tZ s3
       have T3:=T1.sZ s3
       have F3:=F1.sZ s3
       have T31:=T3.1
       have F31:=F3.1
       have T32:=T3.2.1
       have F32:=F3.2.1
       simp only[jV,jH,au,aA]at T32 F32
       cases hr:uz s k with
       |ok t=>
        rw[hr]at hK
        obtain⟨r1,r2,r3,r4⟩:=mO (la:=kU t) (lb:=jH 0 0) st3 T3 F3 zO zO zO rfl rfl
        simp only[kU,jH]at r1 r2 r3
        refine⟨jO,?_⟩
        simp only[qw,kU,jH]
        simp(disch:=first|omega|simp only[zz];try omega;done) only[↓reduceIte,go_sem,T32,T3.2.2.1,F32,F3.2.2.1,jP,jQ,r2.at,r3.at,r2.2.1,r3.2.1]
        exact hK _ _ r1
       |bad c o'=>
        rw[hr]at hK
        obtain⟨r1,r2,r3,-⟩:=mO (la:=jV) (lb:=jH c o') st3 T3 F3 zO zO zO rfl rfl
        simp only[jV,jH]at r1 r2 r3
        refine⟨jO,?_⟩
        simp only[qw,jV,jH]
        simp(disch:=first|omega|simp only[zz];try omega;done) only[↓reduceIte,go_sem,T32,T3.2.2.1,F32,F3.2.2.1,jP,jQ,r2.at,r3.at,r2.2.1,r3.2.1]
        exact hK _ _ r1
     ·have hK:=rest (λh=>hm h.1)
      by_cases hq:c=34
      ·rw[ah hq]at hK
       simp(disch:=omega) only[↓reduceIte,go_sem,ae (show¬(c:Int)=45 by omega),ai (show(c:Int)=34 by omega)]
       refine jC (.inr (.inr (.inr (.inr (.inr (.inl ⟨rfl,(ub (ub u h.size 0) (h.size+1) 0),s,k,rfl,hk,hl,hlt,λu3 h3 s3=> ?_⟩))))))
       simp only
       have st3:=sp1.tZ s3
       have T3:=T1.sZ s3
       have F3:=F1.sZ s3
       have T31:=T3.1
       have F31:=F3.1
       have T32:=T3.2.1
       have F32:=F3.2.1
       simp only[jV,jH,au,aA]at T32 F32
       cases hr:og s k (k+1) []with
       |ok t=>
        rw[hr]at hK
        obtain⟨r1,r2,r3,r4⟩:=mO (la:=kU t) (lb:=jH 0 0) st3 T3 F3 zO zO zO rfl rfl
        simp only[kU,jH]at r1 r2 r3
        refine⟨jO,?_⟩
        simp only[qw,kU,jH]
        simp(disch:=first|omega|simp only[zz];try omega;done) only[↓reduceIte,go_sem,T32,T3.2.2.1,F32,F3.2.2.1,jP,jQ,r2.at,r3.at,r2.2.1,r3.2.1]
        exact hK _ _ r1
       |bad c o'=>
        rw[hr]at hK
        obtain⟨r1,r2,r3,-⟩:=mO (la:=jV) (lb:=jH c o') st3 T3 F3 zO zO zO rfl rfl
        simp only[jV,jH]at r1 r2 r3
        refine⟨jO,?_⟩
        simp only[qw,jV,jH]
        simp(disch:=first|omega|simp only[zz];try omega;done) only[↓reduceIte,go_sem,T32,T3.2.2.1,F32,F3.2.2.1,jP,jQ,r2.at,r3.at,r2.2.1,r3.2.1]
        exact hK _ _ r1
      ·rw[af hq]at hK
       simp(disch:=omega) only[↓reduceIte,go_sem,ae (show¬(c:Int)=45 by omega),ae (show¬(c:Int)=34 by omega)]
       refine jC (.inr (.inr (.inr (.inr (.inr (.inr ⟨rfl,(ub (ub u h.size 0) (h.size+1) 0),s,k,rfl,hk,hl,hlt,λu3 h3 s3=> ?_⟩))))))
       have st3:=sp1.tZ s3
       have T3:=T1.sZ s3
       have F3:=F1.sZ s3
       have T31:=T3.1
       have F31:=F3.1
       have T32:=T3.2.1
       have F32:=F3.2.1
       simp only[jV,jH,au,aA]at T32 F32
       cases hr:uz s k with
       |ok t=>
        rw[hr]at hK
        obtain⟨r1,r2,r3,r4⟩:=mO (la:=kU t) (lb:=jH 0 0) st3 T3 F3 zO zO zO rfl rfl
        simp only[kU,jH]at r1 r2 r3
        refine⟨jO,?_⟩
        simp only[qw,kU,jH]
        simp(disch:=first|omega|simp only[zz];try omega;done) only[↓reduceIte,go_sem,T32,T3.2.2.1,F32,F3.2.2.1,jP,jQ,r2.at,r3.at,r2.2.1,r3.2.1]
        exact hK _ _ r1
       |bad c o'=>
        rw[hr]at hK
        obtain⟨r1,r2,r3,-⟩:=mO (la:=jV) (lb:=jH c o') st3 T3 F3 zO zO zO rfl rfl
        simp only[jV,jH]at r1 r2 r3
        refine⟨jO,?_⟩
        simp only[qw,jV,jH]
        simp(disch:=first|omega|simp only[zz];try omega;done) only[↓reduceIte,go_sem,T32,T3.2.2.1,F32,F3.2.2.1,jP,jQ,r2.at,r3.at,r2.2.1,r3.2.1]
        exact hK _ _ r1
def aeI:lq:=λf vs h K _=>(f=94/\XV vs h K)\/(f=93/\yB vs h K)\/(f=95/\AU xw (λ_ _=>True) vs h K)
theorem TQ:lQ Tryz.prog aeI:=lY acH (lY wO (pX Xn))
def YZ(vs:List Value)(h:H)(K:Value->H->Prop):Prop:= ∃(u:U) (s:List UInt8),vs=[str s]/\s.length<=9223372036854775807/\ ∀u' h' v,jD S0 u h u' h'->lm h.size u' h' v (ll s).1->K (.tuple #[v,.agg (jH (ll s).2.1 (ll s).2.2).toArray]) h'
theorem abt(hC:YZ vs h K):kN Tryz.prog 55 vs h K KP:=by
 obtain⟨u,s,rfl,hmax,hK⟩:=hC
 refine jJ 8813274993661 [(none,(.t 2)),((some (.c1 (.ldn 3) (.t 3))),(.o1 (.ldn 3) (.t 3)))] TQ Tryz.func55 ?_
 have R1:=jR.new (u:=u) (h:=h) (jH 0 0) 27
 have st1:=jD.qZ S0 u h (jH 0 0).toArray 27
 have fin: ∀(u4:U) (h4:H) (v:Value) (c o:Int) (l:List kR),jD S0 u h u4 h4->jR u4 h4 h.size (jH 0 0)->lm (h.size+1) u4 h4 v l->l=(ll s).1->c=(ll s).2.1->o=((ll s).2.2:Nat)->
   jR u4 (jW h4 h.size 0 (jH c o)) h.size (jH c o)/\ ∀u5 h5,jD S0 u4 (jW h4 h.size 0 (jH c o)) u5 h5->K (.tuple #[v,.agg (jH c o).toArray]) h5:=by
  intro u4 h4 v c o l q1 q2 q3 q4 q5 q6
  subst q4 q5 q6
  have w1:=q1.rZ (b:=h.size) (o:=0) (l:=jH (ll s).2.1 (ll s).2.2) (.inl (ak _)) (by rw[q2.2.2.2.1];exact aj _) (by rw[q2.2.1];exact ak _)
  have w2:=jD.sets (S:=λb=>b=h.size) u4 h4 (b:=h.size) (o:=0) (jH (ll s).2.1 (ll s).2.2) rfl (by rw[q2.2.2.2.1];exact aj _) (by rw[q2.2.1];exact ak _)
  exact⟨q2.sets rfl,λu5 h5 s5=>hK _ _ _ (w1.tZ s5) (((q3.step w2 (λb hb he=>by have:=q3.ge hb;omega)).sZ s5).mono zO)⟩
 by_cases hl:65536<s.length
 ·have hsc:ll s=([],1,0):=by unfold ll;rw[ah hl]
  simp only[jH]at R1 st1
  simp only[↓reduceIte,go_sem,ai (show(65536:Int)<(s.length:Nat) by omega)]
  refine jC (.inr (.inl ⟨rfl,ub u h.size 0,1,0,rfl,λu2 h2 s2=>⟨jO,?_⟩⟩))
  have R2:=R1.sZ s2
  obtain⟨f1,f2⟩:=fin u2 h2 (.slice none 0 0) 1 0 [] (st1.tZ s2) R2 (.nil _ _ _) (by rw[hsc]) (by rw[hsc]) (by rw[hsc];rfl)
  have R21:=R2.1
  simp only[jH]at f1 f2
  simp(disch:=first|omega|simp only[zz];try omega;done) only[↓reduceIte,go_sem,jH,R2.2.1,R2.2.2.1,f1.at,f1.2.1]
  exact f2 _ _ (.refl _ _ _)
 have hsc:ll s=mH s 0:=by unfold ll;rw[af hl];rfl
 have hlen:=vG s
 simp only[jH]at R1 st1
 simp only[↓reduceIte,go_sem,ae (show¬(65536:Int)<(s.length:Nat) by omega)]
 obtain⟨I,hI⟩:=kg (α:=Nat×List kR->ku->H->Prop) λx σ h'=>σ 0=str s/\σ 3= .pointer (some ⟨h.size,0,none⟩)/\σ 5= Jx JT x.1/\x.1<=s.length/\mH s 0=(x.2++(mH s x.1).1,(mH s x.1).2)/\
   ∃u',jD S0 u h u' h'/\jR u' h' h.size (jH 0 0)/\lm (h.size+1) u' h' (σ 4) x.2
 refine jE I (λx=>s.length - x.1) (0,[]) (by
  rw[hI]
  exact⟨zJ,zJ,zJ,zP,rfl,_,st1,R1,by simpa [jI]using lm.nil _ _ _⟩) ?_
 clear R1 st1
 rintro ⟨k,acc⟩ σ h1 hy
 rw[hI]at hy
 obtain⟨e0,e3,e5,hk,hsk,u1,st,R,ho⟩:=hy
 simp only at e5 hk hsk ho
 rw[hsc]at fin hlen
 have R01:=R.1
 obtain⟨oa,oc,hoe,-,-⟩:=ho.sl
 simp only[go_sem,e0,e5]
 refine jC (.inl ⟨rfl,s,k,rfl,zO,zO,zO,⟨jO,?_⟩⟩)
 rw[dH]
 have gl:=zX hk
 obtain⟨o,hgo⟩:=kg ((oL s k).1)
 rw[<-hgo]at gl ⊢
 cases hg2:(oL s k).2 with
 |false=>
  have hn:oK s k= .bad 16 o:=by unfold oK;rw[hg2,<-hgo];rfl
  rw[xR hn,bG]at hsk
  simp(disch:=omega) only[↓reduceIte,go_sem,okN]
  refine jC (.inr (.inl ⟨rfl,u1,16,o,rfl,λu2 h2 s2=>⟨jO,?_⟩⟩))
  have R2:=R.sZ s2
  obtain⟨f1,f2⟩:=fin u2 h2 _ 16 o acc (st.tZ s2) R2 (ho.sZ s2) (by rw[hsk]) (by rw[hsk]) (by rw[hsk])
  have R21:=R2.1
  simp only[jH]at f1 f2
  rw[hoe]at f2
  simp(disch:=first|omega|simp only[zz];try omega;done) only[↓reduceIte,go_sem,jH,e3,hoe,R2.2.1,R2.2.2.1,f1.at,f1.2.1]
  exact f2 _ _ (.refl _ _ _)
 |true=>
  have hn:oK s k=xw s o:=by unfold oK;rw[hg2,<-hgo];rfl
  simp(disch:=omega) only[↓reduceIte,go_sem,okN,e0]
  refine jC (.inr (.inr ⟨rfl,u1,s,o,rfl,gl,zO,trivial,λu2 h2 s2=> ?_⟩))
  have R2:=R.sZ s2
  have st2:=st.tZ s2
  have ho2:=ho.sZ s2
  have R21:=R2.1
  cases hr:xw s o with
  |bad c p=>
   have hc:=Ja hr
   rw[hr]at hn
   rw[xR hn,bG]at hsk
   have sp:jD S0 u2 h2 (ub (ub u2 h2.size 0) (h2.size+1) 0) ((h2.push (.cells jV.toArray 46)).push (.cells (jH c p).toArray 27)):=by
    have:=((jD.refl S0 u2 h2).pZ (c:=jV.toArray) (t:=46)).pZ (c:=(jH c p).toArray) (t:=27)
    simpa only[kw]using this
   obtain⟨f1,f2⟩:=fin u2 h2 _ c p acc st2 R2 ho2 (by rw[hsk]) (by rw[hsk]) (by rw[hsk])
   refine⟨jO,?_⟩
   simp only[qw,jV,jH]at sp f1 f2 ⊢
   have R22:=R2.2.1
   simp only[jH,au,aA]at R22
   have q2:(jW h2 h.size 0 [Jx JT c,Jx JT 0,Jx JT (p:Int)]).size=h2.size:=lI _ _ _ _
   rw[hoe]at f2
   simp(disch:=first|omega|simp only[zz];try omega;done) only[↓reduceIte,go_sem,e3,hoe,ae (show¬c=0 from hc),R22,R2.2.2.1,f1.at,f1.2.1]
   exact f2 _ _ zT
  |ok t=>
   obtain⟨tc,tv,tn,tp,to,te,rfl,q1,q2,q3,q4⟩:=wW hk (hn.trans hr)
   rw[hr]at hn
   obtain⟨t,ht⟩:=kg (α:=kR) ((tc,tv,tn,tp,(to:Int),(te:Int)))
   have T2:=(jR.new (u:=u2) (h:=h2) (kU t) 46).pZ (c:=(jH 0 0).toArray) (t:=27)
   have sp:=((jD.refl S0 u2 h2).pZ (c:=(kU t).toArray) (t:=46)).pZ (c:=(jH 0 0).toArray) (t:=27)
   have o3:=ho2.sZ sp
   have R3:=R2.sZ sp
   have st3:=st2.tZ sp
   have hacc:acc.length<=65536:=by
    have h1:=bA (λx=>x.1.length) hsk
    simp only[ay]at h1
    have h2:1<=(mH s k).1.length:=by
     by_cases h0:tc=0
     ·rw[xS hn h0];simp
     ·rw[zZ hk hn h0];simp
    omega
   have hlt: ∀b,jL (σ 4) b->h.size+1<=b/\b<h2.size:=λb hb=>⟨ho2.ge hb,ho2.lt hb⟩
   simp only[kw,ht,kU,jH]at T2 sp o3 R3 st3
   refine⟨jO,?_⟩
   simp only[qw,kU,jH]
   simp(disch:=first|omega|simp only[zz];try omega;done) only[↓reduceIte,go_sem,hoe]
   rw[<-hoe]
   refine lD (k:=h.size+1) (by simp only[kw]) o3 (x:=t) (by rw[qh,ht];rfl) rfl rfl zY zO λa n c u4 h4 ho4 s4 hO4=>⟨jO,?_⟩
   have T4:=T2.step s4 (λhb=>by have:=hlt _ hb;omega)
   have R4:=R3.step s4 (λhb=>by have:=hlt _ hb;omega)
   have st4:=st3.trans s4 (λb hb hq=>by have:=hlt _ hq;omega)
   have T41:=T4.1;have R41:=R4.1
   have R42:=R4.2.1
   simp only[au,aA]at R42
   by_cases h0:tc=0
   ·rw[xS hn h0]at hsk
    obtain⟨f1,f2⟩:=fin u4 h4 (.slice a n c) 0 0 (acc++[t]) st4 R4 ho4 (by rw[hsk,ht]) (by rw[hsk]) (by rw[hsk];rfl)
    simp only[jH]at f1 f2
    simp(disch:=first|omega|simp only[zz];try omega;done) only[↓reduceIte,go_sem,e3,T4.at,T4.2.1,ai h0,R42,R4.2.2.1,f1.at,f1.2.1]
    exact f2 _ _ (.refl _ _ _)
   ·rw[zZ hk hn h0]at hsk
    have hlt2:=q4 h0
    simp(disch:=first|omega|simp only[zz];try omega;done) only[↓reduceIte,go_sem,T4.at,T4.2.1,ae h0]
    refine⟨(te,acc++[t]),?_,by simp only;omega⟩
    rw[hI]
    refine⟨by simp [jI,e0],by simp [jI,e3],zJ,q2,?_,u4,st4,R4,by simpa [jI]using ho4⟩
    rw[hsk,ht];simp
end Go.Proofs.Z
