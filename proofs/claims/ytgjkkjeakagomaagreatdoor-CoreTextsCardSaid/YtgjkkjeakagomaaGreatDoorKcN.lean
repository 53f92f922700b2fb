/- A part of the proof. -/
import Derived.Test.YtgjkkjeakagomaaGreatDoorCbV
import Derived.Test.YtgjkkjeakagomaaGreatDoorWellB
set_option linter.all false
set_option maxRecDepth 100000
set_option maxHeartbeats 4000000
open Go.Value renaming int→Jx
open Go.IntKind renaming i64→JT
namespace Edict
theorem MB(ps:List kK)(cs:List jK)(vs:lN)(l:jZ)(r:List jZ):ry ps cs vs (l::r)=if l.1=1 then(uI ps l.2.1.1,rQ cs vs l.2.1.2.1)::ry ps cs (tu vs l) r else ry ps cs vs r:=rfl
theorem Ke(ps:List kK)(cs:List jK): ∀(l:List jZ) (vs:lN),(ry ps cs vs l).length<=l.length
 |[],_=>ak _
 |x::l,vs=>by
  rw[MB]
  split
  ·have:=Ke ps cs l (tu vs x);simp only[au];omega
  ·have:=Ke ps cs l vs;simp only[au];omega
end Edict
namespace Go.Ev
open Go Edict
theorem alC{h:H}{b:Nat}{v0 v1 v2 v3 v4 v5 v6:Value}(hz:lS h b=7):lS (jW h b 0 [v0,v1,v2,v3,v4,v5,v6]) b=7/\Go.Ev.hv (jW h b 0 [v0,v1,v2,v3,v4,v5,v6]) b 0=v0/\Go.Ev.hv (jW h b 0 [v0,v1,v2,v3,v4,v5,v6]) b 1=v1/\Go.Ev.hv (jW h b 0 [v0,v1,v2,v3,v4,v5,v6]) b 2=v2/\Go.Ev.hv (jW h b 0 [v0,v1,v2,v3,v4,v5,v6]) b 3=v3/\
  Go.Ev.hv (jW h b 0 [v0,v1,v2,v3,v4,v5,v6]) b 4=v4/\Go.Ev.hv (jW h b 0 [v0,v1,v2,v3,v4,v5,v6]) b 5=v5/\Go.Ev.hv (jW h b 0 [v0,v1,v2,v3,v4,v5,v6]) b 6=v6:=by
 have hl:0+[v0,v1,v2,v3,v4,v5,v6].length<=lS h b:=by rw[hz];simp
 refine⟨by rw[jP,hz],?_,?_,?_,?_,?_,?_,?_⟩<;>(rw[ut _ _ _ _ _ hl];simp)
theorem aaO(u:U)(h:H)(a b:jM)(e:TypeId):jS (ub u h.size 8) (h.push (.cells #[Jx JT a.1,Jx JT a.2.1,str a.2.2.1,Jx JT a.2.2.2,Jx JT b.1,Jx JT b.2.1,str b.2.2.1,Jx JT b.2.2.2] e)) (.slice (some ⟨h.size,0,none⟩) 2 2) [a,b]:=
 (lm.made (k:=0) (α:=jM) u h (aj _) e [a,b] (jM.enc a++jM.enc b) rfl (by simp only[au,aA];decide) (λi x hx=>by
  match i with
  |0=>cases hx;rw[ko];rfl
  |1=>cases hx;rw[ko];rfl
  |i+2=>simp at hx)).iZ
end Go.Ev
namespace Go.Proofs.Z
open Go Go.Ev Edict
theorem wL.lt{k:Nat}{u:U}{h:H}{b mp mc:Nat}{vP vC vR vF:Value}{ps:List kK}{cs:List jK}{rs:List oq}{fs:List sj}(B:wL k u h b mp mc vP vC vR vF ps cs rs fs){i:Nat}(hi:qQ b mp mc vP vC vR vF i):i<h.size:=by
 rcases hi with rfl|rfl|rfl|hi|hi|hi|hi
 ·exact B.blk.1
 ·exact B.mP.lt
 ·exact B.mC.lt
 ·exact B.oP.lt hi
 ·exact B.oC.lt hi
 ·exact B.oR.lt hi
 ·exact B.oF.lt hi
def WK(vs:List Value)(h:H)(K:Value->H->Prop):Prop:= ∃(k:Nat) (u:U) (b mp mc:Nat) (v vP vC vR vF:Value) (ls:List jZ) (ps:List kK) (cs:List jK) (rs:List oq) (fs:List sj),
 vs=[.pointer (some ⟨b,0,none⟩),v]/\jS u h v ls/\wL k u h b mp mc vP vC vR vF ps cs rs fs/\bulkL ls<=1048576/\(∀x∈ls,∀t∈kQ x,Rep.wf (jU t))/\
 ∀u' h' mv n l,jD S0 u h u' h'->Rep.rep u' h' (YD ps cs (0,[]) 0 ls) l->oI h' mv (ol (jF ls)) n->n<=(jF ls).length->h.size<=mv->K (.tuple #[.agg l.toArray,.map (some mv)]) h'
def ad3:lq:=λf vs h K _=>(f=73/\JI vs h K)\/(f=33/\yX vs h K)
theorem Tq:lQ Tryz.prog ad3:=lY Mo (pX Kg)
theorem aaP{vs:List Value}{h:H}{K:Value->H->Prop}{KP:List PanicEntry->H->Prop}(hC:WK vs h K):kN Tryz.prog 32 vs h K KP:=by
 obtain⟨k,u,b,mp,mc,v,vP,vC,vR,vF,ls,ps,cs,rs,fs,rfl,hl,B,hbk,hwf,hK⟩:=hC
 obtain⟨la,lc,rfl,q1,q2⟩:=hl.sl
 have hm:=lC
 have htb:=DZ ls
 have hll:=pq ls
 refine jJ 1208925931923144953312755 [((some (.c1 (.ldn 7) (.t 4))),(.o1 (.ldn 7) (.t 4))),(none,(.t 5))] Tq Tryz.func32 ?_ (by kernel_rfl) (by apply c0 rfl;repeat' first|apply cS|apply cK|apply cL|apply cX|(apply cC zD)|with_reducible exact cV 8 (.join (.seq (.sts [(zg 2 (.t 6))]) (.seq (.sts [(zh (zf 2 (.t 6)))]) (.seq (.sts [(zk .nilck (.t 0))]) (.seq (.sts [(zg 4 (.t 0))]) (.seq (.sts [(zh (zf 4 (.t 0)))]) (.seq (.sts [(zg 1 (.t 10))]) (.seq (.sts [(zg 0 (zf 1 (.t 10)))]) (.seq (.sts [(zh (zf 0 (zf 1 (.t 10))))]) (.seq (.sts [(zg 1 (.t 10))]) (.seq (.sts [(zg 1 (zf 1 (.t 10)))]) (.seq (.sts [(zh (zf 1 (zf 1 (.t 10))))]) (.both (.sts [(.set 40 (zl (zf 1 (zf 1 (.t 10))))),(.set 35 (zl (zf 0 (zf 1 (.t 10))))),(.set 32 (zl (zf 4 (.t 0)))),(.set 28 (zl (zf 2 (.t 6)))),(.eff [] (some 36) (.look .string (Jx JT 0) false) [(.t 32),(.t 35)] [([],((zf 1 (zf 1 (.t 10))),none)),([],((zf 2 (.t 6)),none))]),(.eff [] (some 42) (.call 33) [(.t 0),(.t 40),(.t 7),(.t 8),(.c (.bool true))] [([],((zf 2 (.t 6)),none))]),(.chk [] (.cb 2 [(0,(1,(.t 36))),(1,(1,(.t 42)))])),(.eff [] (some 44) (.bsl 82 2 1 [(Jx JT 0),(.slice none 0 0)] [0]) [(.o2 (.put 1 1) (.o2 (.put 0 1) (.c (.agg #[(Jx JT 0),(.slice none 0 0)])) (.t 36)) (.t 42))] [([],((zf 2 (.t 6)),none))]),(.eff [] (some 45) (.app 82 2 32 [(Jx JT 0),(.slice none 0 0)]) [(.t 28),(.t 44)] []),(zg 2 (.t 6)),(.eff [] none (.store 1) [(zf 2 (.t 6)),(.t 45)] [])]) (.sts [(.set 40 (zl (zf 1 (zf 1 (.t 10))))),(.set 35 (zl (zf 0 (zf 1 (.t 10))))),(.set 32 (zl (zf 4 (.t 0)))),(.set 28 (zl (zf 2 (.t 6)))),(.eff [] (some 42) (.call 33) [(.t 0),(.t 40),(.t 7),(.t 8),(.c (.bool true))] [([],((zf 0 (zf 1 (.t 10))),none)),([],((zf 4 (.t 0)),none)),([],((zf 2 (.t 6)),none))]),(.eff [] (some 36) (.look .string (Jx JT 0) false) [(.t 32),(.t 35)] [([],((zf 2 (.t 6)),none))]),(.chk [] (.cb 2 [(0,(1,(.t 36))),(1,(1,(.t 42)))])),(.eff [] (some 44) (.bsl 82 2 1 [(Jx JT 0),(.slice none 0 0)] [0]) [(.o2 (.put 1 1) (.o2 (.put 0 1) (.c (.agg #[(Jx JT 0),(.slice none 0 0)])) (.t 36)) (.t 42))] [([],((zf 2 (.t 6)),none))]),(.eff [] (some 45) (.app 82 2 32 [(Jx JT 0),(.slice none 0 0)]) [(.t 28),(.t 44)] []),(zg 2 (.t 6)),(.eff [] none (.store 1) [(zf 2 (.t 6)),(.t 45)] [])])))))))))))))) (by kernel_rfl)|with_reducible exact cV 16 (.sts [(zg 3 (.t 6)),(zh (zf 3 (.t 6))),(zg 4 (.t 12)),(zh (zf 4 (.t 12))),(zx 2 (.t 13) (zv 0)),(zk (.ldn 2) (zi 2 (.t 13) (zv 0))),(zx 2 (.t 13) (zv 1)),(zk (.ldn 2) (zi 2 (.t 13) (zv 1))),(.chk [] (.cb 5 [(0,(1,(zl (zf 4 (.t 12))))),(1,(2,(.o1 (.ldn 2) (zi 2 (.t 13) (zv 0))))),(3,(2,(.o1 (.ldn 2) (zi 2 (.t 13) (zv 1)))))])),(.set 76 (.o2 (.put 3 2) (.o2 (.put 1 2) (.o2 (.put 0 1) (.c (.agg #[(Jx JT 0),(.bool false),(Jx JT 0),(.bool false),(Jx JT 0)])) (zl (zf 4 (.t 12)))) (.o1 (.ldn 2) (zi 2 (.t 13) (zv 0)))) (.o1 (.ldn 2) (zi 2 (.t 13) (zv 1))))),(.set 67 (zl (zf 3 (.t 6)))),(.eff [] (some 77) (.bsl 160 5 1 [(Jx JT 0),(.bool false),(Jx JT 0),(.bool false),(Jx JT 0)] [0]) [(.t 76)] [([],((zf 3 (.t 6)),none))]),(.eff [] (some 78) (.app 160 5 40 [(Jx JT 0),(.bool false),(Jx JT 0),(.bool false),(Jx JT 0)]) [(.t 67),(.t 77)] []),(zg 3 (.t 6)),(.eff [] none (.store 1) [(zf 3 (.t 6)),(.t 78)] [])]) (by kernel_rfl)|with_reducible exact cV 18 (.join (.seq (.sts [(zg 4 (.t 6))]) (.seq (.sts [(zh (zf 4 (.t 6)))]) (.seq (.sts [(zk .nilck (.t 0))]) (.seq (.sts [(zg 4 (.t 0))]) (.seq (.sts [(zh (zf 4 (.t 0)))]) (.seq (.sts [(zg 1 (.t 12))]) (.seq (.sts [(zg 0 (zf 1 (.t 12)))]) (.seq (.sts [(zh (zf 0 (zf 1 (.t 12))))]) (.seq (.sts [(zg 1 (.t 12))]) (.seq (.sts [(zg 1 (zf 1 (.t 12)))]) (.seq (.sts [(zh (zf 1 (zf 1 (.t 12))))]) (.both (.sts [(.set 95 (zl (zf 1 (zf 1 (.t 12))))),(.set 90 (zl (zf 0 (zf 1 (.t 12))))),(.set 87 (zl (zf 4 (.t 0)))),(.set 83 (zl (zf 4 (.t 6)))),(.eff [] (some 91) (.look .string (Jx JT 0) false) [(.t 87),(.t 90)] [([],((zf 1 (zf 1 (.t 12))),none)),([],((zf 4 (.t 6)),none))]),(.eff [] (some 97) (.call 33) [(.t 0),(.t 95),(.t 7),(.t 8),(.c (.bool false))] [([],((zf 4 (.t 6)),none))]),(.chk [] (.cb 2 [(0,(1,(.t 91))),(1,(1,(.t 97)))])),(.eff [] (some 99) (.bsl 82 2 1 [(Jx JT 0),(.slice none 0 0)] [0]) [(.o2 (.put 1 1) (.o2 (.put 0 1) (.c (.agg #[(Jx JT 0),(.slice none 0 0)])) (.t 91)) (.t 97))] [([],((zf 4 (.t 6)),none))]),(.eff [] (some 100) (.app 82 2 32 [(Jx JT 0),(.slice none 0 0)]) [(.t 83),(.t 99)] []),(zg 4 (.t 6)),(.eff [] none (.store 1) [(zf 4 (.t 6)),(.t 100)] [])]) (.sts [(.set 95 (zl (zf 1 (zf 1 (.t 12))))),(.set 90 (zl (zf 0 (zf 1 (.t 12))))),(.set 87 (zl (zf 4 (.t 0)))),(.set 83 (zl (zf 4 (.t 6)))),(.eff [] (some 97) (.call 33) [(.t 0),(.t 95),(.t 7),(.t 8),(.c (.bool false))] [([],((zf 0 (zf 1 (.t 12))),none)),([],((zf 4 (.t 0)),none)),([],((zf 4 (.t 6)),none))]),(.eff [] (some 91) (.look .string (Jx JT 0) false) [(.t 87),(.t 90)] [([],((zf 4 (.t 6)),none))]),(.chk [] (.cb 2 [(0,(1,(.t 91))),(1,(1,(.t 97)))])),(.eff [] (some 99) (.bsl 82 2 1 [(Jx JT 0),(.slice none 0 0)] [0]) [(.o2 (.put 1 1) (.o2 (.put 0 1) (.c (.agg #[(Jx JT 0),(.slice none 0 0)])) (.t 91)) (.t 97))] [([],((zf 4 (.t 6)),none))]),(.eff [] (some 100) (.app 82 2 32 [(Jx JT 0),(.slice none 0 0)]) [(.t 83),(.t 99)] []),(zg 4 (.t 6)),(.eff [] none (.store 1) [(zf 4 (.t 6)),(.t 100)] [])])))))))))))))) (by kernel_rfl)|(conv=>lhs;cbv;try simp only[Kw]))
 simp only[↓reduceIte,go_sem]
 have s0:=jD.qZ S0 u h #[Jx JT 0,.slice none 0 0,.slice none 0 0,.slice none 0 0,.slice none 0 0,.slice none 0 0,Jx JT 0] 87
 have P0:jR (ub u h.size 0) (h.push (.cells #[Jx JT 0,.slice none 0 0,.slice none 0 0,.slice none 0 0,.slice none 0 0,.slice none 0 0,Jx JT 0] 87)) h.size [Jx JT 0,.slice none 0 0,.slice none 0 0,.slice none 0 0,.slice none 0 0,.slice none 0 0,Jx JT 0]:=(jR.mk zY zE zE (by repeat (first|(refine lU ?_;simp only[];done)|apply kG)) zE)
 refine jC (.inl ⟨rfl,ub u h.size 0,_,ls,rfl,hl.mono s0.ge,hbk,λu1 h1 vV s1 hvV=>⟨jO,?_⟩⟩)
 obtain⟨va,vc,rfl,-,-⟩:=hvV.sl
 have st1:=s0.tZ s1
 have P1:=P0.sZ s1
 simp(disch:=omega) only[↓reduceIte,go_sem,jN]
 have s2:=jD.qZ S0 u1 h1 #[Jx JT 0,.slice none 0 0,.slice none 0 0,.slice none 0 0,.slice none 0 0,.slice va (jF ls).length vc,Jx JT 0] 87
 have R2:jR (ub u1 h1.size 0) (h1.push (.cells #[Jx JT 0,.slice none 0 0,.slice none 0 0,.slice none 0 0,.slice none 0 0,.slice va (jF ls).length vc,Jx JT 0] 87)) h1.size [Jx JT 0,.slice none 0 0,.slice none 0 0,.slice none 0 0,.slice none 0 0,.slice va (jF ls).length vc,Jx JT 0]:=(jR.mk zY zE zE (by repeat (first|(refine lU ?_;simp only[];done)|apply kG)) zE)
 refine xF (ub u1 h1.size 0) λu3 h3 s3 m3=>⟨jO,?_⟩
 rw[show(λ_=>none:List UInt8->Option Int)=ol []from by funext s;simp [ol]]at m3
 have R3:=R2.sZ s3
 have s4:=jD.qZ S0 u3 h3 #[Jx JT 0] 3
 have N4:jR (ub u3 h3.size 0) (h3.push (.cells #[Jx JT 0] 3)) h3.size [Jx JT 0]:=(jR.mk zY zE zE (by repeat (first|(refine lU ?_;simp only[];done)|apply kG)) zE)
 have R4:=R3.sZ s4
 have m4:=m3.step s4 (λh=>h)
 have P4:=((P1.sZ s2).sZ s3).sZ s4
 have st4:=(((st1.tZ s2).tZ s3).tZ s4)
 have hvV4:=((hvV.mono s2.ge).mono s3.ge).mono s4.ge
 have c1:=P0.1
 have c2:=s1.ge.sz
 have c3:=m3.lt
 simp only[kw]at c1 c2 m3 m4 c3
 obtain⟨pr,hpr⟩:=kg h1.size
 obtain⟨mv,hmv⟩:=kg (h1.size+1)
 obtain⟨nx,hnx⟩:=kg h3.size
 obtain⟨p0,hp0⟩:=kg h.size
 rw[<-hmv]at m4
 simp(disch:=omega) only[↓reduceIte,go_sem,jN]
 obtain⟨hc,hhc⟩:=kg (h3.push (.cells #[Jx JT 0] 3))
 obtain⟨uc,huc⟩:=kg (ub u3 h3.size 0)
 rw[<-hhc,<-huc]at N4 R4 P4 st4 hvV4
 rw[<-hhc]at m4
 rw[<-hnx]at N4
 rw[<-hpr]at R4
 rw[<-hp0]at P4
 rw[<-hhc]
 obtain⟨I,hI⟩:=kg (α:=Nat->ku->H->Prop) λi σ h'=>σ 0= .pointer (some ⟨b,0,none⟩)/\σ 1= .slice la ls.length lc/\σ 4= .pointer (some ⟨p0,0,none⟩)/\σ 6= .pointer (some ⟨pr,0,none⟩)/\σ 7= .map (some mv)/\σ 8= .pointer (some ⟨nx,0,none⟩)/\σ 18= .slice la ls.length lc/\σ 19= Jx JT ls.length/\σ 20= Jx JT i/\i<=ls.length/\
  ∃(u':U) (vA:Value) (n:Nat) (acc:List mV),jD S0 u h u' h'/\lm h.size u' h' vA acc/\jR u' h' pr [Jx JT 0,.slice none 0 0,vA,.slice none 0 0,.slice none 0 0,.slice va (jF ls).length vc,Jx JT 0]/\
   jR u' h' p0 [Jx JT 0,.slice none 0 0,.slice none 0 0,.slice none 0 0,.slice none 0 0,.slice none 0 0,Jx JT 0]/\jR u' h' nx [Jx JT (jF (ls.take i)).length]/\oI h' mv (ol (jF (ls.take i))) n/\n<=(jF (ls.take i)).length/\
   jS u' h' (.slice va (jF ls).length vc) (jF ls)/\(∀j,jL vA j->j≠pr/\j≠p0/\j≠nx/\j≠mv)/\ry ps cs [] ls=acc++ry ps cs (jF (ls.take i)) (ls.drop i)/\acc.length<=i
 refine jE I (λi=>ls.length - i) 0 (by
  rw[hI]
  exact⟨zJ,zJ,by simp [jI,hp0],by simp [jI,hpr],by simp [jI,hmv],by simp [jI,hnx],zJ,zJ,zJ,aj _,uc,_,0,[],st4,.nil _ _ _,R4,P4,N4,m4,aj _,hvV4,λj hj=>absurd hj oG,rfl,ak _⟩) ?_
 have hdis:h.size<=p0/\h.size<=pr/\h.size<=mv/\h.size<=nx/\pr≠p0/\pr≠mv/\pr≠nx/\p0≠mv/\p0≠nx/\mv≠nx:=zO
 clear N4 R4 P4 st4 hvV4 m4 hhc huc hc uc R3 R2 P1 P0 m3 s4 s3 s2 s1 s0 st1 hvV c1 c2 c3 hpr hmv hnx hp0 h1 h3
 intro i σ h' hy
 rw[hI]at hy
 obtain⟨e0,e1,e4,e6,e7,e8,e18,e19,e20,hi,u',vA,n,acc,st,ho,R,P,N,hM,hnv,hvV,hnA,hF,hal⟩:=hy
 have B':=B.step st (λ_ _ h=>h)
 obtain⟨z1,z2,z3,z4,z5,z6,z7,z8,z9⟩:=B'.open
 have hrl:=R.1
 have hpl:=P.1
 have hnl:=N.1
 by_cases hlt:i<ls.length
 ·obtain⟨x,hs⟩:=qP hlt
  have hdr:ls.drop i=x::ls.drop (i+1):=by
   obtain⟨hi',rfl⟩:=aB.1 hs
   exact aN hi'
  have hsn:jF (ls.take (i+1))=tu (jF (ls.take i)) x:=pI hs
  rw[hdr,MB]at hF
  have hwx:=hwf x (aF hs)
  obtain⟨pb,po,rfl,hpb,hpu,hpz,hpr⟩:=(hl.mono st.ge).row i x hs
  rw[kP]at hpr
  obtain⟨pv,hpr,hpv⟩:=hpr
  obtain⟨pva,pvc,rfl,r1,r2⟩:=hpv.sl
  simp only[jM.enc,lJ,pm,aP,aJ,ax,aC]at hpr hpu hpz
  obtain⟨l0,l1,l2,l3,l4,l5,l6,l7,l8,l9,l10,l11,l12,l13⟩:=hpr
  have sp:=jD.qZ S0 u' h' #[Jx JT x.1,str x.2.1.1,.slice pva x.2.1.2.1.length pvc,Jx JT x.2.1.2.2,Jx JT x.2.2.1,Jx JT x.2.2.2.1.1,Jx JT x.2.2.2.1.2.1,str x.2.2.2.1.2.2.1,Jx JT x.2.2.2.1.2.2.2,Jx JT x.2.2.2.2.1.1,Jx JT x.2.2.2.2.1.2.1,str x.2.2.2.2.1.2.2.1,Jx JT x.2.2.2.2.1.2.2.2,Jx JT x.2.2.2.2.2] 141
  have Y:jR (ub u' h'.size 0) (h'.push (.cells #[Jx JT x.1,str x.2.1.1,.slice pva x.2.1.2.1.length pvc,Jx JT x.2.1.2.2,Jx JT x.2.2.1,Jx JT x.2.2.2.1.1,Jx JT x.2.2.2.1.2.1,str x.2.2.2.1.2.2.1,Jx JT x.2.2.2.1.2.2.2,Jx JT x.2.2.2.2.1.1,Jx JT x.2.2.2.2.1.2.1,str x.2.2.2.2.1.2.2.1,Jx JT x.2.2.2.2.1.2.2.2,Jx JT x.2.2.2.2.2] 141)) h'.size
   [Jx JT x.1,str x.2.1.1,.slice pva x.2.1.2.1.length pvc,Jx JT x.2.1.2.2,Jx JT x.2.2.1,Jx JT x.2.2.2.1.1,Jx JT x.2.2.2.1.2.1,str x.2.2.2.1.2.2.1,Jx JT x.2.2.2.1.2.2.2,Jx JT x.2.2.2.2.1.1,Jx JT x.2.2.2.2.1.2.1,str x.2.2.2.2.1.2.2.1,Jx JT x.2.2.2.2.1.2.2.2,Jx JT x.2.2.2.2.2]:=(jR.mk zY zE zE (by repeat (first|(refine lU ?_;simp only[];done)|apply kG)) zE)
  have Bp:=B'.step sp (λ_ _ h=>h)
  have op:=ho.sZ sp
  have Rp:=R.sZ sp
  have Pp:=P.sZ sp
  have Np:=N.sZ sp
  have Mp:=hM.step sp (λh=>h)
  have hvp:=hvV.mono sp.ge
  have stp:=st.tZ sp
  by_cases hk:x.1=1
  ·have hta:kQ x=x.2.1.2.1:=by unfold kQ;rw[ah (.inl hk)];rfl
   rw[hta]at hwx
   rw[ah hk]at hF
   have hvx:jF (ls.take (i+1))=x.2.1.2.1.foldl kV (jF (ls.take i)):=by rw[hsn];unfold tu;rw[ah hk]
   have hil:(jF (ls.take i)).length+x.2.1.2.1.length<=1048576:=by
    have h1:=vM (ls.take i) []
    have h2:=JH hs
    unfold jF Om at*
    simp only[aA]at h1
    omega
   obtain⟨vi,hvi⟩:=kg (jF (ls.take i))
   rw[<-hvi]at Np Mp hnv hF hvx hil
   have hslots: ∀(K':Value->H->Prop),(∀u5 h5 (wa:Option Addr) (wc n5:Nat),jD (λj=>j=mv\/j=nx) (ub u' h'.size 0) (h'.push (.cells #[Jx JT x.1,str x.2.1.1,.slice pva x.2.1.2.1.length pvc,Jx JT x.2.1.2.2,Jx JT x.2.2.1,Jx JT x.2.2.2.1.1,Jx JT x.2.2.2.1.2.1,str x.2.2.2.1.2.2.1,Jx JT x.2.2.2.1.2.2.2,Jx JT x.2.2.2.2.1.1,Jx JT x.2.2.2.2.1.2.1,str x.2.2.2.2.1.2.2.1,Jx JT x.2.2.2.2.1.2.2.2,Jx JT x.2.2.2.2.2] 141)) u5 h5->
     jS u5 h5 (.slice wa (rQ cs vi x.2.1.2.1).length wc) (rQ cs vi x.2.1.2.1)->oI h5 mv (ol (jF (ls.take (i+1)))) n5->n5<=(jF (ls.take (i+1))).length->jR u5 h5 nx [Jx JT (jF (ls.take (i+1))).length]->K' (.slice wa (rQ cs vi x.2.1.2.1).length wc) h5)->
     yX [.pointer (some ⟨b,0,none⟩),.slice pva x.2.1.2.1.length pvc,.map (some mv),.pointer (some ⟨nx,0,none⟩),.bool true] (h'.push (.cells #[Jx JT x.1,str x.2.1.1,.slice pva x.2.1.2.1.length pvc,Jx JT x.2.1.2.2,Jx JT x.2.2.1,Jx JT x.2.2.2.1.1,Jx JT x.2.2.2.1.2.1,str x.2.2.2.1.2.2.1,Jx JT x.2.2.2.1.2.2.2,Jx JT x.2.2.2.2.1.1,Jx JT x.2.2.2.2.1.2.1,str x.2.2.2.2.1.2.2.1,Jx JT x.2.2.2.2.1.2.2.2,Jx JT x.2.2.2.2.2] 141)) K':=λK' hK'=>
    ⟨k,ub u' h'.size 0,b,mp,mc,mv,nx,n,_,vP,vC,vR,vF,x.2.1.2.1,ps,cs,rs,fs,vi,true,rfl,hpv.mono sp.ge,Bp,Mp,hnv,hwx,zO,λ_=>⟨Np,hdis.2.2.2.2.2.2.2.2.2,λhj=>by have:=B.lt hj;omega,λhj=>by have:=B.lt hj;omega⟩,λu5 h5 w n5 s5 o5 m5 l5 b5=>by
     have o5:lm _ u5 h5 w (rQ cs vi x.2.1.2.1):=o5
     obtain⟨wa,wc,rfl,-,-⟩:=o5.sl
     have b5:=b5 rfl
     have hsv:slV true vi x.2.1.2.1=jF (ls.take (i+1)):=hvx.symm
     rw[hsv]at m5 l5 b5
     exact hK' u5 h5 wa wc n5 (s5.mono λj _ hj=>hj.2) o5.iZ m5 l5 b5⟩
   simp(disch:=omega) only[↓reduceIte,go_sem,e18,e19,e20,hlt,l0,l1,l2,l3,l4,l5,l6,l7,l8,l9,l10,l11,l12,l13,ai hk]
   refine vX (λσ' h2=>BR σ σ' [0,1,4,6,7,8,18,19,20]/\ ∃(u2:U) (vB:Value) (n2:Nat),jD S0 u h u2 h2/\lm h.size u2 h2 vB (acc++[(uI ps x.2.1.1,rQ cs vi x.2.1.2.1)])/\jR u2 h2 pr [Jx JT 0,.slice none 0 0,vB,.slice none 0 0,.slice none 0 0,.slice va (jF ls).length vc,Jx JT 0]/\
    jR u2 h2 p0 [Jx JT 0,.slice none 0 0,.slice none 0 0,.slice none 0 0,.slice none 0 0,.slice none 0 0,Jx JT 0]/\jR u2 h2 nx [Jx JT (jF (ls.take (i+1))).length]/\oI h2 mv (ol (jF (ls.take (i+1)))) n2/\n2<=(jF (ls.take (i+1))).length/\
    jS u2 h2 (.slice va (jF ls).length vc) (jF ls)/\(∀j,jL vB j->j≠pr/\j≠p0/\j≠nx/\j≠mv)) ?_ ?_
   ·simp(disch:=first|omega|simp only[zz];try omega;done) only[↓reduceIte,go_sem,vQ,e0,e1,e4,e6,e7,e8,e18,e19,e20,z1,z7,R.at,R.2.1]
    have hpid:(nJ (ps.map (·.1)) x.2.1.1).getD 0=uI ps x.2.1.1:=rfl
    have hlA:=Ke ps cs ls []
    rw[hF]at hlA
    simp only[ay,au]at hlA
    refine⟨oz Bp.mP ⟨by simp(disch:=omega) only[↓reduceIte,go_sem,e6,R.2.1],?_⟩,jC (.inr ⟨rfl,hslots _ λu5 h5 wa wc n5 s5 i5 m5 l5 b5=> ?_⟩)⟩
    rw[hpid]
    simp only[mr,aD,aW]
    simp only[↓reduceIte,go_sem,e0,e7,e8]
    refine jC (.inr ⟨rfl,hslots _ λu5 h5 wa wc n5 s5 i5 m5 l5 b5=> ?_⟩)
    have R5:=Rp.step s5 (λe=>e.elim (λe=>hdis.2.2.2.2.2.1 e) (λe=>hdis.2.2.2.2.2.2.1 e))
    have P5:=Pp.step s5 (λe=>e.elim (λe=>hdis.2.2.2.2.2.2.2.1 e) (λe=>hdis.2.2.2.2.2.2.2.2.1 e))
    have o5:=op.step s5 (λj hj e=>e.elim (λe=>(hnA j hj).2.2.2 e) (λe=>(hnA j hj).2.2.1 e))
    have B5:=Bp.step s5 (λj hj e=>by have:=B.lt hj;omega)
    have Y5:=Y.step s5 (λe=>by have:=hM.lt;omega)
    have st5:jD S0 u h u5 h5:=stp.trans s5 (λj hj e=>zO)
    have hv5:=hvp.mono s5.ge
    obtain⟨w1,w2,w3,w4,w5,w6,w7,w8,w9⟩:=B5.open
    have hr5:=R5.1
    have hrp:=Rp.1
    have hy5:=Y5.1
    have hmv5:=m5.lt
    have hnx5:=b5.1
    have hp5:=P5.1
    refine⟨by simp(disch:=first|omega|simp only[zz];try omega;done) only[↓reduceIte,go_sem,e6,R.at,R5.at,R5.2.1],?_⟩
    simp(disch:=first|omega|simp only[zz];try omega;done) only[↓reduceIte,go_sem,e6,R5.at,R5.2.1]
    refine kW rfl o5 (x:=(uI ps x.2.1.1,rQ cs vi x.2.1.2.1)) (cs:=[Jx JT (uI ps x.2.1.1),.slice wa (rQ cs vi x.2.1.2.1).length wc]) (by rw[nA];exact⟨_,rfl,i5⟩) rfl rfl st5.ge.sz zO λa6 n6 c6 u6 h6 o6 s6 b6=>⟨jO,?_⟩
    have nr6: ∀j,jL (.slice a6 n6 c6) j->j≠pr/\j≠p0/\j≠nx/\j≠mv:=λj hj=>(b6 j hj).elim (hnA j) (λh=>zO)
    have R6:=R5.step s6 (λhj=>(hnA _ hj).1 rfl)
    have P6:=P5.step s6 (λhj=>(hnA _ hj).2.1 rfl)
    have N6:=b5.step s6 (λhj=>(hnA _ hj).2.2.1 rfl)
    have M6:=m5.step s6 (λhj=>(hnA _ hj).2.2.2 rfl)
    have st6:jD S0 u h u6 h6:=st5.trans s6 (λj hj hB=>by have:=ho.ge hB;omega)
    have hr6:=R6.1
    have sw:jD (λj=>j=pr) u6 h6 u6 (ky h6 pr 2 (.slice a6 n6 c6)):=jD.set u6 h6 _ rfl (by rw[R6.2.2.2.1];exact aj _)
    have R7:=R6.set (i:=2) (v:= .slice a6 n6 c6) zP
    have hx6:=R6.2.1
    have hy6:=R6.2.2.1
    simp only[↓reduceIte,go_sem,e0,e1,e4,e6,e7,e8,e18,e19,e20,hx6,hy6]
    refine⟨u6,st6.trans sw (λj hj e=>by have e:j=pr:=e;omega),_,o6.step sw (λj hj e=>(nr6 j hj).1 e),R7,P6.step sw (λe=>hdis.2.2.2.2.1 e.symm),N6.step sw (λe=>hdis.2.2.2.2.2.2.1 e.symm),n5,M6.step sw (λe=>hdis.2.2.2.2.2.1 e.symm),l5,(hv5.mono s6.ge).mono sw.ge,nr6⟩
    have R5:=Rp.step s5 (λe=>e.elim (λe=>hdis.2.2.2.2.2.1 e) (λe=>hdis.2.2.2.2.2.2.1 e))
    have P5:=Pp.step s5 (λe=>e.elim (λe=>hdis.2.2.2.2.2.2.2.1 e) (λe=>hdis.2.2.2.2.2.2.2.2.1 e))
    have o5:=op.step s5 (λj hj e=>e.elim (λe=>(hnA j hj).2.2.2 e) (λe=>(hnA j hj).2.2.1 e))
    have B5:=Bp.step s5 (λj hj e=>by have:=B.lt hj;omega)
    have Y5:=Y.step s5 (λe=>by have:=hM.lt;omega)
    have st5:jD S0 u h u5 h5:=stp.trans s5 (λj hj e=>zO)
    have hv5:=hvp.mono s5.ge
    obtain⟨w1,w2,w3,w4,w5,w6,w7,w8,w9⟩:=B5.open
    have hr5:=R5.1
    have hrp:=Rp.1
    have hy5:=Y5.1
    have hmv5:=m5.lt
    have hnx5:=b5.1
    have hp5:=P5.1
    refine⟨by simp(disch:=first|omega|simp only[zz];try omega;done) only[↓reduceIte,go_sem,e0,e6,z7,w1,w7,R.at,R5.at,R5.2.1,Y5.at,Y5.2.1],?_⟩
    simp only[↓reduceIte,go_sem]
    refine oz B5.mP ⟨by simp(disch:=omega) only[↓reduceIte,go_sem,e6,R5.2.1],?_⟩
    rw[hpid]
    simp only[mr,aD,aW]
    simp(disch:=first|omega|simp only[zz];try omega;done) only[↓reduceIte,go_sem,e6,R5.at,R5.2.1]
    refine kW rfl o5 (x:=(uI ps x.2.1.1,rQ cs vi x.2.1.2.1)) (cs:=[Jx JT (uI ps x.2.1.1),.slice wa (rQ cs vi x.2.1.2.1).length wc]) (by rw[nA];exact⟨_,rfl,i5⟩) rfl rfl st5.ge.sz zO λa6 n6 c6 u6 h6 o6 s6 b6=>⟨jO,?_⟩
    have nr6: ∀j,jL (.slice a6 n6 c6) j->j≠pr/\j≠p0/\j≠nx/\j≠mv:=λj hj=>(b6 j hj).elim (hnA j) (λh=>zO)
    have R6:=R5.step s6 (λhj=>(hnA _ hj).1 rfl)
    have P6:=P5.step s6 (λhj=>(hnA _ hj).2.1 rfl)
    have N6:=b5.step s6 (λhj=>(hnA _ hj).2.2.1 rfl)
    have M6:=m5.step s6 (λhj=>(hnA _ hj).2.2.2 rfl)
    have st6:jD S0 u h u6 h6:=st5.trans s6 (λj hj hB=>by have:=ho.ge hB;omega)
    have hr6:=R6.1
    have sw:jD (λj=>j=pr) u6 h6 u6 (ky h6 pr 2 (.slice a6 n6 c6)):=jD.set u6 h6 _ rfl (by rw[R6.2.2.2.1];exact aj _)
    have R7:=R6.set (i:=2) (v:= .slice a6 n6 c6) zP
    have hx6:=R6.2.1
    have hy6:=R6.2.2.1
    simp only[↓reduceIte,go_sem,e0,e1,e4,e6,e7,e8,e18,e19,e20,hx6,hy6]
    refine⟨u6,st6.trans sw (λj hj e=>by have e:j=pr:=e;omega),_,o6.step sw (λj hj e=>(nr6 j hj).1 e),R7,P6.step sw (λe=>hdis.2.2.2.2.1 e.symm),N6.step sw (λe=>hdis.2.2.2.2.2.2.1 e.symm),n5,M6.step sw (λe=>hdis.2.2.2.2.2.1 e.symm),l5,(hv5.mono s6.ge).mono sw.ge,nr6⟩
   ·rintro σ' h2 ⟨hkE,u2,vB,n2,s2,o2,R2,P2,N2,M2,hn2,hv2,hn2A⟩
    simp only[go_sem,e0,e1,e4,e6,e7,e8,e18,e19,e20]at hkE
    obtain⟨k0,k1,k4,k6,k7,k8,k18,k19,k20⟩:=hkE
    simp(disch:=omega) only[↓reduceIte,go_sem,k20]
    refine⟨i+1,?_,zO⟩
    rw[hI]
    refine⟨by simp [jI,k0],by simp [jI,k1],by simp [jI,k4],by simp [jI,k6],by simp [jI,k7],by simp [jI,k8],by simp [jI,k18],by simp [jI,k19],zJ,hlt,u2,vB,n2,_,s2,o2,R2,P2,N2,M2,hn2,hv2,hn2A,?_,?_⟩
    ·rw[hF,hsn];simp [hvi]
    ·simp;omega
  ·rw[af hk]at hF
   have hvx:jF (ls.take (i+1))=jF (ls.take i):=by rw[hsn];unfold tu;rw[af hk]
   simp(disch:=omega) only[↓reduceIte,go_sem,e18,e19,e20,hlt,l0,l1,l2,l3,l4,l5,l6,l7,l8,l9,l10,l11,l12,l13,ae hk]
   refine⟨i+1,?_,zO⟩
   rw[hI]
   exact⟨by simp [jI,e0],by simp [jI,e1],by simp [jI,e4],by simp [jI,e6],by simp [jI,e7],by simp [jI,e8],by simp [jI,e18],by simp [jI,e19],zJ,hlt,_,vA,n,acc,stp,op,Rp,Pp,by rw[hvx];exact Np,by rw[hvx];exact Mp,by rw[hvx];exact hnv,hvp,hnA,by rw[hvx];exact hF,zO⟩
 ·obtain rfl:i=ls.length:=zO
  rw[aK]at N hM hnv hF
  rw[bB,show ry ps cs (jF ls) []=[]from rfl,bG]at hF
  have hPos:=hF
  simp only[↓reduceIte,go_sem,e1,e19,e20]
  clear hI
  have hPL:jS u' h' vA (ry ps cs [] ls):=by rw[hPos];exact ho.iZ
  obtain⟨pva,pvc,hpA,-,-⟩:=hPL.sl
  subst hpA
  have nT0: ∀j,jL (.slice none 0 0) j->j≠pr/\j≠p0:=λj hj=>absurd hj oG
  obtain⟨J,hJ⟩:=kg (α:=Nat->ku->H->Prop) λi σ h'=>σ 0= .pointer (some ⟨b,0,none⟩)/\σ 4= .pointer (some ⟨p0,0,none⟩)/\σ 6= .pointer (some ⟨pr,0,none⟩)/\σ 7= .map (some mv)/\σ 8= .pointer (some ⟨nx,0,none⟩)/\σ 48= .slice la ls.length lc/\σ 49= Jx JT ls.length/\σ 50= Jx JT i/\i<=ls.length/\
   ∃(u':U) (vT vN:Value),jD S0 u h u' h'/\lm h.size u' h' vT (mK cs (jF ls) (ls.take i))/\lm h.size u' h' vN (om ps cs (jF ls) (ls.take i))/\jR u' h' pr [Jx JT 0,.slice none 0 0,.slice pva (ry ps cs [] ls).length pvc,vT,vN,.slice va (jF ls).length vc,Jx JT 0]/\
    jR u' h' p0 [Jx JT 0,.slice none 0 0,.slice none 0 0,.slice none 0 0,.slice none 0 0,.slice none 0 0,Jx JT 0]/\oI h' mv (ol (jF ls)) n/\jS u' h' (.slice va (jF ls).length vc) (jF ls)/\jS u' h' (.slice pva (ry ps cs [] ls).length pvc) (ry ps cs [] ls)/\
    (∀j,jL vT j->j≠pr/\j≠p0/\j≠mv)/\(∀j,jL vN j->j≠pr/\j≠p0/\j≠mv)/\(∀j,jL vT j-> ¬jL vN j)
  refine jE J (λi=>ls.length - i) 0 (by
   rw[hJ]
   exact⟨by simp [jI,e0],by simp [jI,e4],by simp [jI,e6],by simp [jI,e7],by simp [jI,e8],zJ,zJ,zJ,aj _,u',_,_,st,.nil _ _ _,.nil _ _ _,R,P,hM,hvV,hPL,λj hj=>absurd hj oG,λj hj=>absurd hj oG,λj hj=>absurd hj oG⟩) ?_
  clear e0 e1 e4 e6 e7 e8 e18 e19 e20 st ho R P N hM hvV hnA hF hal hPL hpl hrl hnl z1 z2 z3 z4 z5 z6 z7 z8 z9 B' hi hlt nT0 hPos
  clear u' h' acc σ
  intro i σ h' hy
  rw[hJ]at hy
  obtain⟨e0,e4,e6,e7,e8,e48,e49,e50,hi,u',vT,vN,st,oT,oN,R,P,hM,hvV,hPL,nT,nN,nTN⟩:=hy
  have B':=B.step st (λ_ _ h=>h)
  obtain⟨z1,z2,z3,z4,z5,z6,z7,z8,z9⟩:=B'.open
  have hrl:=R.1
  have hpl:=P.1
  by_cases hlt:i<ls.length
  ·obtain⟨x,hs⟩:=qP hlt
   have hwx:=hwf x (aF hs)
   have hsT:mK cs (jF ls) (ls.take (i+1))=mK cs (jF ls) (ls.take i)++mK cs (jF ls) [x]:=by unfold mK;rw[aX,hs,bC,eY,bH]
   have hsN:om ps cs (jF ls) (ls.take (i+1))=om ps cs (jF ls) (ls.take i)++om ps cs (jF ls) [x]:=by unfold om;rw[aX,hs,bC,eY,bH]
   have hlT:(mK cs (jF ls) (ls.take i)).length<=ls.length:=by unfold mK;rw[aU];exact aT (bW ..) (by rw[aR];exact fP _ _)
   have hlN:(om ps cs (jF ls) (ls.take i)).length<=ls.length:=by unfold om;rw[aU];exact aT (bW ..) (by rw[aR];exact fP _ _)
   have hvl:(jF ls).length<=1048576:=by have:=vM ls [];unfold jF;simp only[aA]at this;omega
   obtain⟨pb,po,rfl,hpb,hpu,hpz,hpr⟩:=(hl.mono st.ge).row i x hs
   rw[kP]at hpr
   obtain⟨pv,hpr,hpv⟩:=hpr
   obtain⟨xva,xvc,rfl,r1,r2⟩:=hpv.sl
   simp only[jM.enc,lJ,pm,aP,aJ,ax,aC]at hpr hpu hpz
   obtain⟨l0,l1,l2,l3,l4,l5,l6,l7,l8,l9,l10,l11,l12,l13⟩:=hpr
   have sp:=jD.qZ S0 u' h' #[Jx JT x.1,str x.2.1.1,.slice xva x.2.1.2.1.length xvc,Jx JT x.2.1.2.2,Jx JT x.2.2.1,Jx JT x.2.2.2.1.1,Jx JT x.2.2.2.1.2.1,str x.2.2.2.1.2.2.1,Jx JT x.2.2.2.1.2.2.2,Jx JT x.2.2.2.2.1.1,Jx JT x.2.2.2.2.1.2.1,str x.2.2.2.2.1.2.2.1,Jx JT x.2.2.2.2.1.2.2.2,Jx JT x.2.2.2.2.2] 141
   have Y:jR (ub u' h'.size 0) (h'.push (.cells #[Jx JT x.1,str x.2.1.1,.slice xva x.2.1.2.1.length xvc,Jx JT x.2.1.2.2,Jx JT x.2.2.1,Jx JT x.2.2.2.1.1,Jx JT x.2.2.2.1.2.1,str x.2.2.2.1.2.2.1,Jx JT x.2.2.2.1.2.2.2,Jx JT x.2.2.2.2.1.1,Jx JT x.2.2.2.2.1.2.1,str x.2.2.2.2.1.2.2.1,Jx JT x.2.2.2.2.1.2.2.2,Jx JT x.2.2.2.2.2] 141)) h'.size
    [Jx JT x.1,str x.2.1.1,.slice xva x.2.1.2.1.length xvc,Jx JT x.2.1.2.2,Jx JT x.2.2.1,Jx JT x.2.2.2.1.1,Jx JT x.2.2.2.1.2.1,str x.2.2.2.1.2.2.1,Jx JT x.2.2.2.1.2.2.2,Jx JT x.2.2.2.2.1.1,Jx JT x.2.2.2.2.1.2.1,str x.2.2.2.2.1.2.2.1,Jx JT x.2.2.2.2.1.2.2.2,Jx JT x.2.2.2.2.2]:=(jR.mk zY zE zE (by repeat (first|(refine lU ?_;simp only[];done)|apply kG)) zE)
   have Bp:=B'.step sp (λ_ _ h=>h)
   have oTp:=oT.sZ sp
   have oNp:=oN.sZ sp
   have Rp:=R.sZ sp
   have Pp:=P.sZ sp
   have Mp:=hM.step sp (λh=>h)
   have stp:=st.tZ sp
   obtain⟨hp,hhp⟩:=kg (h'.push (.cells #[Jx JT x.1,str x.2.1.1,.slice xva x.2.1.2.1.length xvc,Jx JT x.2.1.2.2,Jx JT x.2.2.1,Jx JT x.2.2.2.1.1,Jx JT x.2.2.2.1.2.1,str x.2.2.2.1.2.2.1,Jx JT x.2.2.2.1.2.2.2,Jx JT x.2.2.2.2.1.1,Jx JT x.2.2.2.2.1.2.1,str x.2.2.2.2.1.2.2.1,Jx JT x.2.2.2.2.1.2.2.2,Jx JT x.2.2.2.2.2] 141))
   have hslots: ∀(u1:U) (h1:H) (v1:Value) (tl:List jM),jD S0 (ub u' h'.size 0) hp u1 h1->jS u1 h1 v1 tl->(∀t∈tl,Rep.wf (jU t))->tl.length<=1048576-> ∀(K':Value->H->Prop),(∀u5 h5 (wa:Option Addr) (wc:Nat),jD S0 u1 h1 u5 h5->
     jS u5 h5 (.slice wa (tl.map (mi cs (jF ls))).length wc) (tl.map (mi cs (jF ls)))->oI h5 mv (ol (jF ls)) n->K' (.slice wa (tl.map (mi cs (jF ls))).length wc) h5)->
     yX [.pointer (some ⟨b,0,none⟩),v1,.map (some mv),.pointer (some ⟨nx,0,none⟩),.bool false] h1 K':=λu1 h1 v1 tl s1 hv1 hw1 hl1 K' hK'=>by
    rw[<-hhp]at Bp Mp
    have M1:=Mp.step s1 (λh=>h)
    refine⟨k,u1,b,mp,mc,mv,nx,n,_,vP,vC,vR,vF,tl,ps,cs,rs,fs,jF ls,false,rfl,hv1,Bp.step s1 (λ_ _ h=>h),M1,hnv,hw1,zO,(λh=>by cases h),λu5 h5 w n5 s5 o5 m5 l5 b5=> ?_⟩
    have o5:lm _ u5 h5 w (tl.map (mi cs (jF ls))):=o5
    obtain⟨wa,wc,rfl,-,-⟩:=o5.sl
    have s5':jD S0 u1 h1 u5 h5:=s5.mono λj _ hj=>by cases hj.1
    exact hK' u5 h5 wa wc s5' o5.iZ (M1.step s5' (λh=>h))
   have next: ∀(σ':ku) (u3:U) (h3:H) (vT' vN':Value),σ' 0=σ 0->σ' 4=σ 4->σ' 6=σ 6->σ' 7=σ 7->σ' 8=σ 8->σ' 48=σ 48->σ' 49=σ 49->σ' 50= Jx JT ((i:Int)+1)->jD S0 u' h' u3 h3\/jD S0 u h u3 h3->jD S0 u h u3 h3->
     lm h.size u3 h3 vT' (mK cs (jF ls) (ls.take i)++mK cs (jF ls) [x])->lm h.size u3 h3 vN' (om ps cs (jF ls) (ls.take i)++om ps cs (jF ls) [x])->jR u3 h3 pr [Jx JT 0,.slice none 0 0,.slice pva (ry ps cs [] ls).length pvc,vT',vN',.slice va (jF ls).length vc,Jx JT 0]->
     jR u3 h3 p0 [Jx JT 0,.slice none 0 0,.slice none 0 0,.slice none 0 0,.slice none 0 0,.slice none 0 0,Jx JT 0]->oI h3 mv (ol (jF ls)) n->jS u3 h3 (.slice va (jF ls).length vc) (jF ls)->jS u3 h3 (.slice pva (ry ps cs [] ls).length pvc) (ry ps cs [] ls)->
     (∀j,jL vT' j->j≠pr/\j≠p0/\j≠mv)->(∀j,jL vN' j->j≠pr/\j≠p0/\j≠mv)->(∀j,jL vT' j-> ¬jL vN' j)-> ∃y,J y σ' h3/\ls.length - y<ls.length - i:=λσ' u3 h3 vT' vN' g0 g4 g6 g7 g8 g48 g49 g50 _ s3 oT3 oN3 R3 P3 M3 v3 p3 nT3 nN3 nTN3=>by
    refine⟨i+1,?_,zO⟩
    rw[hJ]
    exact⟨by rw[g0,e0],by rw[g4,e4],by rw[g6,e6],by rw[g7,e7],by rw[g8,e8],by rw[g48,e48],by rw[g49,e49],g50,hlt,u3,vT',vN',s3,by rw[hsT];exact oT3,by rw[hsN];exact oN3,R3,P3,M3,v3,p3,nT3,nN3,nTN3⟩
   by_cases hk3:x.1=3
   ·have hta:kQ x=[x.2.2.2.1,x.2.2.2.2.1]:=by unfold kQ;rw[af zO,ah hk3]
    rw[hta]at hwx
    have hN0:om ps cs (jF ls) [x]=[]:=by unfold om;simp [hk3]
    have hT1:mK cs (jF ls) [x]=[(x.2.2.1,mi cs (jF ls) x.2.2.2.1,mi cs (jF ls) x.2.2.2.2.1)]:=by unfold mK adD;simp [hk3]
    have i1:=aaO (ub u' h'.size 0) hp x.2.2.2.1 x.2.2.2.2.1 74
    have s1:=jD.push S0 (ub u' h'.size 0) hp #[Jx JT x.2.2.2.1.1,Jx JT x.2.2.2.1.2.1,str x.2.2.2.1.2.2.1,Jx JT x.2.2.2.1.2.2.2,Jx JT x.2.2.2.2.1.1,Jx JT x.2.2.2.2.1.2.1,str x.2.2.2.2.1.2.2.1,Jx JT x.2.2.2.2.1.2.2.2] 74 8
    have hhs:hp.size=h'.size+1:=by rw[hhp];simp only[kw]
    rw[hhs]at i1 s1
    simp(disch:=omega) only[↓reduceIte,go_sem,e0,e7,e8,e48,e49,e50,hlt,l0,l1,l2,l3,l4,l5,l6,l7,l8,l9,l10,l11,l12,l13,ai hk3]
    rw[<-hhp]
    rw[<-hhp]at oTp oNp Rp Pp Mp Y sp stp Bp
    refine jC (.inr ⟨rfl,hslots _ _ _ _ s1 i1 hwx zP _ λu5 h5 wa wc s5 i5 m5=>⟨jO,?_⟩⟩)
    simp only[aS,bK,au,aA,bJ,Nat.reduceAdd]at i5 ⊢
    obtain⟨wb,wo,rfl,hwb,hwu0,hwz0,hw0⟩:=i5.row 0 _ rfl
    obtain⟨wb',wo',hwe,-,hwu1,hwz1,hw1⟩:=i5.row 1 _ rfl
    cases hwe
    rw[wC]at hw0 hw1
    simp only[Yn,CP,ax,aC,fB,dO,jb]at hw0 hw1 hwu0 hwu1 hwz0 hwz1
    have st5:=(stp.tZ s1).tZ s5
    have R5:=(Rp.sZ s1).sZ s5
    have P5:=(Pp.sZ s1).sZ s5
    have oT5:=(oTp.sZ s1).sZ s5
    have oN5:=(oNp.sZ s1).sZ s5
    have Y5:=(Y.sZ s1).sZ s5
    have v5:=((hvV.mono sp.ge).mono s1.ge).mono s5.ge
    have p5:=((hPL.mono sp.ge).mono s1.ge).mono s5.ge
    have hr5:=R5.1
    have hy5:=Y5.1
    simp(disch:=first|omega|simp only[zz];try omega;done) only[↓reduceIte,go_sem,e6,R5.at,R5.2.1,Y5.at,Y5.2.1,hw0.1,hw0.2,hw1.1,hw1.2]
    refine kW rfl oT5 (x:=(x.2.2.1,mi cs (jF ls) x.2.2.2.1,mi cs (jF ls) x.2.2.2.2.1)) (cs:=[Jx JT x.2.2.1,.bool (mi cs (jF ls) x.2.2.2.1).1,Jx JT (mi cs (jF ls) x.2.2.2.1).2,.bool (mi cs (jF ls) x.2.2.2.2.1).1,Jx JT (mi cs (jF ls) x.2.2.2.2.1).2]) (by rw[Jb]) rfl rfl st5.ge.sz zO λa6 n6 c6 u6 h6 o6 s6 b6=>⟨jO,?_⟩
    have nT6: ∀j,jL (.slice a6 n6 c6) j->j≠pr/\j≠p0/\j≠mv:=λj hj=>(b6 j hj).elim (nT j) (λh=>by have:=hM.lt;have:=st5.ge.sz;have:=R5.1;have:=P5.1;have:=m5.lt;omega)
    have R6:=R5.step s6 (λhj=>(nT _ hj).1 rfl)
    have P6:=P5.step s6 (λhj=>(nT _ hj).2.1 rfl)
    have M6:=m5.step s6 (λhj=>(nT _ hj).2.2 rfl)
    have oN6:=oN5.step s6 (λj hj hT=>nTN j hT hj)
    have st6:jD S0 u h u6 h6:=st5.trans s6 (λj hj hB=>by have:=oT.ge hB;omega)
    have nTN6: ∀j,jL (.slice a6 n6 c6) j-> ¬jL vN j:=λj hj hN=>(b6 j hj).elim (λh=>nTN j h hN) (λh=>by have:=oN5.lt hN;omega)
    have hr6:=R6.1
    have sw:jD (λj=>j=pr) u6 h6 u6 (ky h6 pr 3 (.slice a6 n6 c6)):=jD.set u6 h6 _ rfl (by rw[R6.2.2.2.1];exact aj _)
    have R7:=R6.set (i:=3) (v:= .slice a6 n6 c6) zP
    have hx6:=R6.2.1
    have hy6:=R6.2.2.1
    simp(disch:=omega) only[↓reduceIte,go_sem,e6,e50,hx6,hy6]
    exact next _ u6 _ _ vN zJ zJ zJ zJ zJ zJ zJ zJ (.inr (st6.trans sw (λj hj e=>by have e:j=pr:=e;omega))) (st6.trans sw (λj hj e=>by have e:j=pr:=e;omega)) (by rw[hT1];exact o6.step sw (λj hj e=>(nT6 j hj).1 e)) (by rw[hN0,bG];exact oN6.step sw (λj hj e=>(nN j hj).1 e)) R7
     (P6.step sw (λe=>hdis.2.2.2.2.1 e.symm)) (M6.step sw (λe=>hdis.2.2.2.2.2.1 e.symm)) ((v5.mono s6.ge).mono sw.ge) ((p5.mono s6.ge).mono sw.ge) nT6 nN nTN6
   by_cases hk2:x.1=2
   ·have hta:kQ x=x.2.1.2.1:=by unfold kQ;rw[ah (.inr hk2)];rfl
    rw[hta]at hwx
    have hT0:mK cs (jF ls) [x]=[]:=by unfold mK;simp [hk3]
    have hN1:om ps cs (jF ls) [x]=[RX ps cs (jF ls) x.2.1]:=by unfold om;simp [hk2]
    have hxl:x.2.1.2.1.length<=1048576:=by
     have h2:=JH hs
     unfold Om at h2
     omega
    have hpid:(nJ (ps.map (·.1)) x.2.1.1).getD 0=uI ps x.2.1.1:=rfl
    simp(disch:=omega) only[↓reduceIte,go_sem,e48,e49,e50,hlt,l0,l1,l2,l3,l4,l5,l6,l7,l8,l9,l10,l11,l12,l13,ae hk3,ai hk2]
    rw[<-hhp]
    rw[<-hhp]at oTp oNp Rp Pp Mp Y sp stp Bp
    have hhs:hp.size=h'.size+1:=by rw[hhp];simp only[kw]
    have hrp:=Rp.1
    have hyp:=Y.1
    obtain⟨x1,x2,x3,x4,x5,x6,x7,x8,x9⟩:=Bp.open
    clear hhp
    refine vX (λσ' h2=>BR σ σ' [0,4,6,7,8,48,49,50]/\ ∃(u2:U) (vB:Value),jD S0 u h u2 h2/\lm h.size u2 h2 vT (mK cs (jF ls) (ls.take i))/\lm h.size u2 h2 vB (om ps cs (jF ls) (ls.take i)++om ps cs (jF ls) [x])/\jR u2 h2 pr [Jx JT 0,.slice none 0 0,.slice pva (ry ps cs [] ls).length pvc,vT,vB,.slice va (jF ls).length vc,Jx JT 0]/\
     jR u2 h2 p0 [Jx JT 0,.slice none 0 0,.slice none 0 0,.slice none 0 0,.slice none 0 0,.slice none 0 0,Jx JT 0]/\oI h2 mv (ol (jF ls)) n/\jS u2 h2 (.slice va (jF ls).length vc) (jF ls)/\jS u2 h2 (.slice pva (ry ps cs [] ls).length pvc) (ry ps cs [] ls)/\
     (∀j,jL vB j->j≠pr/\j≠p0/\j≠mv)/\(∀j,jL vT j-> ¬jL vB j)) ?_ ?_
    ·simp(disch:=first|omega|simp only[zz];try omega;done) only[↓reduceIte,go_sem,vQ,e0,e4,e6,e7,e8,e48,e49,e50,x1,x7,Rp.at,Rp.2.1,Y.at,Y.2.1]
     refine⟨oz Bp.mP ⟨by simp(disch:=omega) only[↓reduceIte,go_sem,e6,Rp.2.1,Y.2.1],?_⟩,jC (.inr ⟨rfl,hslots _ _ _ _ (.refl _ _ _) (hpv.mono sp.ge) hwx hxl _ λu5 h5 wa wc s5' i5 m5=> ?_⟩)⟩
     rw[hpid]
     simp only[mr,aD,aW]
     simp only[↓reduceIte,go_sem,e0,e7,e8]
     refine jC (.inr ⟨rfl,hslots _ _ _ _ (.refl _ _ _) (hpv.mono sp.ge) hwx hxl _ λu5 h5 wa wc s5' i5 m5=> ?_⟩)
     have s5:=s5'
     have R5:=Rp.sZ s5
     have P5:=Pp.sZ s5
     have oT5:=oTp.sZ s5
     have oN5:=oNp.sZ s5
     have B5:=Bp.step s5 (λ_ _ h=>h)
     have Y5:=Y.sZ s5
     have st5:=stp.tZ s5
     have v5:=(hvV.mono sp.ge).mono s5.ge
     have p5:=(hPL.mono sp.ge).mono s5.ge
     obtain⟨w1,w2,w3,w4,w5,w6,w7,w8,w9⟩:=B5.open
     have hr5:=R5.1
     have hrp:=Rp.1
     have hy5:=Y5.1
     have hmv5:=m5.lt
     have hp5:=P5.1
     refine⟨by simp(disch:=first|omega|simp only[zz];try omega;done) only[↓reduceIte,go_sem,e6,Rp.at,R5.at,R5.2.1],?_⟩
     simp(disch:=first|omega|simp only[zz];try omega;done) only[↓reduceIte,go_sem,e6,R5.at,R5.2.1]
     refine kW rfl oN5 (x:=RX ps cs (jF ls) x.2.1) (cs:=[Jx JT (uI ps x.2.1.1),.slice wa (x.2.1.2.1.map (mi cs (jF ls))).length wc]) (by rw[nA];exact⟨_,rfl,i5⟩) rfl rfl st5.ge.sz zO λa6 n6 c6 u6 h6 o6 s6 b6=>⟨jO,?_⟩
     have nN6: ∀j,jL (.slice a6 n6 c6) j->j≠pr/\j≠p0/\j≠mv:=λj hj=>(b6 j hj).elim (nN j) (λh=>zO)
     have R6:=R5.step s6 (λhj=>(nN _ hj).1 rfl)
     have P6:=P5.step s6 (λhj=>(nN _ hj).2.1 rfl)
     have M6:=m5.step s6 (λhj=>(nN _ hj).2.2 rfl)
     have oT6:=oT5.step s6 (λj hj hN=>nTN j hj hN)
     have st6:jD S0 u h u6 h6:=st5.trans s6 (λj hj hB=>by have:=oN.ge hB;omega)
     have nTN6: ∀j,jL vT j-> ¬jL (.slice a6 n6 c6) j:=λj hT hj=>(b6 j hj).elim (λh=>nTN j hT h) (λh=>by have:=oT5.lt hT;omega)
     have hr6:=R6.1
     have sw:jD (λj=>j=pr) u6 h6 u6 (ky h6 pr 4 (.slice a6 n6 c6)):=jD.set u6 h6 _ rfl (by rw[R6.2.2.2.1];exact aj _)
     have R7:=R6.set (i:=4) (v:= .slice a6 n6 c6) zP
     have hx6:=R6.2.1
     have hy6:=R6.2.2.1
     simp only[↓reduceIte,go_sem,e0,e4,e6,e7,e8,e48,e49,e50,hx6,hy6]
     exact⟨u6,st6.trans sw (λj hj e=>by have e:j=pr:=e;omega),oT6.step sw (λj hj e=>(nT j hj).1 e),_,by rw[hN1];exact o6.step sw (λj hj e=>(nN6 j hj).1 e),R7,P6.step sw (λe=>hdis.2.2.2.2.1 e.symm),M6.step sw (λe=>hdis.2.2.2.2.2.1 e.symm),(v5.mono s6.ge).mono sw.ge,(p5.mono s6.ge).mono sw.ge,nN6,nTN6⟩
     have s5:=s5'
     have R5:=Rp.sZ s5
     have P5:=Pp.sZ s5
     have oT5:=oTp.sZ s5
     have oN5:=oNp.sZ s5
     have B5:=Bp.step s5 (λ_ _ h=>h)
     have Y5:=Y.sZ s5
     have st5:=stp.tZ s5
     have v5:=(hvV.mono sp.ge).mono s5.ge
     have p5:=(hPL.mono sp.ge).mono s5.ge
     obtain⟨w1,w2,w3,w4,w5,w6,w7,w8,w9⟩:=B5.open
     have hr5:=R5.1
     have hrp:=Rp.1
     have hy5:=Y5.1
     have hmv5:=m5.lt
     have hp5:=P5.1
     refine⟨by simp(disch:=first|omega|simp only[zz];try omega;done) only[↓reduceIte,go_sem,e0,e6,x7,w1,w7,Rp.at,R5.at,R5.2.1,Y.at,Y5.at,Y5.2.1],?_⟩
     simp only[↓reduceIte,go_sem]
     refine oz B5.mP ⟨by simp(disch:=omega) only[↓reduceIte,go_sem,e6,R5.2.1],?_⟩
     rw[hpid]
     simp only[mr,aD,aW]
     simp(disch:=first|omega|simp only[zz];try omega;done) only[↓reduceIte,go_sem,e6,R5.at,R5.2.1]
     refine kW rfl oN5 (x:=RX ps cs (jF ls) x.2.1) (cs:=[Jx JT (uI ps x.2.1.1),.slice wa (x.2.1.2.1.map (mi cs (jF ls))).length wc]) (by rw[nA];exact⟨_,rfl,i5⟩) rfl rfl st5.ge.sz zO λa6 n6 c6 u6 h6 o6 s6 b6=>⟨jO,?_⟩
     have nN6: ∀j,jL (.slice a6 n6 c6) j->j≠pr/\j≠p0/\j≠mv:=λj hj=>(b6 j hj).elim (nN j) (λh=>zO)
     have R6:=R5.step s6 (λhj=>(nN _ hj).1 rfl)
     have P6:=P5.step s6 (λhj=>(nN _ hj).2.1 rfl)
     have M6:=m5.step s6 (λhj=>(nN _ hj).2.2 rfl)
     have oT6:=oT5.step s6 (λj hj hN=>nTN j hj hN)
     have st6:jD S0 u h u6 h6:=st5.trans s6 (λj hj hB=>by have:=oN.ge hB;omega)
     have nTN6: ∀j,jL vT j-> ¬jL (.slice a6 n6 c6) j:=λj hT hj=>(b6 j hj).elim (λh=>nTN j hT h) (λh=>by have:=oT5.lt hT;omega)
     have hr6:=R6.1
     have sw:jD (λj=>j=pr) u6 h6 u6 (ky h6 pr 4 (.slice a6 n6 c6)):=jD.set u6 h6 _ rfl (by rw[R6.2.2.2.1];exact aj _)
     have R7:=R6.set (i:=4) (v:= .slice a6 n6 c6) zP
     have hx6:=R6.2.1
     have hy6:=R6.2.2.1
     simp only[↓reduceIte,go_sem,e0,e4,e6,e7,e8,e48,e49,e50,hx6,hy6]
     exact⟨u6,st6.trans sw (λj hj e=>by have e:j=pr:=e;omega),oT6.step sw (λj hj e=>(nT j hj).1 e),_,by rw[hN1];exact o6.step sw (λj hj e=>(nN6 j hj).1 e),R7,P6.step sw (λe=>hdis.2.2.2.2.1 e.symm),M6.step sw (λe=>hdis.2.2.2.2.2.1 e.symm),(v5.mono s6.ge).mono sw.ge,(p5.mono s6.ge).mono sw.ge,nN6,nTN6⟩
    ·rintro σ' h2 ⟨hkE,u2,vB,s2,oT2,oN2,R2,P2,M2,v2,p2,nN2,nTN2⟩
     simp only[go_sem,e0,e4,e6,e7,e8,e48,e49,e50]at hkE
     obtain⟨k0,k4,k6,k7,k8,k48,k49,k50⟩:=hkE
     simp(disch:=omega) only[↓reduceIte,go_sem,k50]
     exact next _ u2 h2 vT vB (by simp [jI,k0,e0]) (by simp [jI,k4,e4]) (by simp [jI,k6,e6]) (by simp [jI,k7,e7]) (by simp [jI,k8,e8]) (by simp [jI,k48,e48]) (by simp [jI,k49,e49]) zJ (.inr s2) s2 (by rw[hT0,bG];exact oT2) oN2 R2 P2 M2 v2 p2 nT nN2 nTN2
   ·have hT0:mK cs (jF ls) [x]=[]:=by unfold mK;simp [hk3]
    have hN0:om ps cs (jF ls) [x]=[]:=by unfold om;simp [hk2]
    simp(disch:=omega) only[↓reduceIte,go_sem,e48,e49,e50,hlt,l0,l1,l2,l3,l4,l5,l6,l7,l8,l9,l10,l11,l12,l13,ae hk3,ae hk2]
    exact next _ _ _ vT vN zJ zJ zJ zJ zJ zJ zJ zJ (.inl sp) stp (by rw[hT0,bG];exact oTp) (by rw[hN0,bG];exact oNp) Rp Pp Mp (hvV.mono sp.ge) (hPL.mono sp.ge) nT nN nTN
  ·obtain rfl:i=ls.length:=zO
   rw[aK]at oT oN
   obtain⟨ta,tc,rfl,-,-⟩:=oT.sl
   obtain⟨na,nc,rfl,-,-⟩:=oN.sl
   simp(disch:=first|omega|simp only[zz];try omega;done) only[↓reduceIte,go_sem,e4,e6,e7,e49,e50,R.at,R.2.1,P.2.1,P.2.2.1]
   obtain⟨y0,y1,y2,y3,y4,y5,y6,y7⟩:=alC (v0:= Jx JT 0) (v1:= .slice none 0 0) (v2:= .slice pva (ry ps cs [] ls).length pvc) (v3:= .slice ta (mK cs (jF ls) ls).length tc) (v4:= .slice na (om ps cs (jF ls) ls).length nc) (v5:= .slice va (jF ls).length vc) (v6:= Jx JT 0) P.2.1
   rw[y0,y1,y2,y3,y4,y5,y6,y7]
   refine⟨ak _,?_⟩
   have sw:jD (λj=>j=p0) u' h' u' (jW h' p0 0 [Jx JT 0,.slice none 0 0,.slice pva (ry ps cs [] ls).length pvc,.slice ta (mK cs (jF ls) ls).length tc,.slice na (om ps cs (jF ls) ls).length nc,.slice va (jF ls).length vc,Jx JT 0]):=jD.sets u' h' _ rfl (by rw[P.2.2.2.1];exact ak _) (by rw[P.2.1];exact ak _)
   refine hK u' _ mv n [Jx JT 0,.slice none 0 0,.slice pva (ry ps cs [] ls).length pvc,.slice ta (mK cs (jF ls) ls).length tc,.slice na (om ps cs (jF ls) ls).length nc,.slice va (jF ls).length vc,Jx JT 0] (st.trans sw λj hj e=>by have e:j=p0:=e;omega) ?_ (hM.step sw λe=>hdis.2.2.2.2.2.2.2.1 (by have e:mv=p0:=e;exact e.symm)) hnv hdis.2.2.1
   rw[sK]
   exact⟨_,_,_,_,_,rfl,.nil _ _,hPL.mono sw.ge,oT.iZ.mono sw.ge,oN.iZ.mono sw.ge,hvV.mono sw.ge⟩
end Go.Proofs.Z
namespace Edict
open Go.Ev
variable {p:List jY} {s:List UInt8}
theorem Tn{f:Int->Bool}(h:zn f s=true):s.length<=64:=by
 unfold zn at h
 cases s with
 |nil=>simp
 |cons b r=>simp only[aM,aL]at h;simp only[au];exact h.1
theorem Mw(h:qY s=true):s.length<=64:=by
 unfold qY at h
 rw[aM]at h
 exact Tn h.2
theorem wM{t:jM}(h:mY t=0):Rep.bulk t<=260:=by
 have hb:Rep.bulk t=1+(1+(t.2.2.1.length+1+1)):=rfl
 have hl:t.2.2.1.length<=255:=by
  unfold mY at h
  split at h
  ·split at h
   ·rename_i hc;exact aT (Tn hc.2) zD
   ·cases h
  ·unfold Cy at h
   split at h
   ·rename_i hv
    unfold qN at hv
    split at hv
    ·simp only[aL]at hv;rw[hv];simp
    ·split at hv
     ·rw[aM]at hv;exact aT (Mw hv.2) zD
     ·split at hv
      ·rw[aM,aL,aL]at hv;exact hv.2
      ·cases hv
   ·cases h
 omega
theorem yU{α:Type}{f:α->Int}: ∀{l:List α},ng f l=0-> ∀x∈l,f x=0
 |[],_,x,h=>by simp at h
 |y::l,hf,x,h=>by
  rw[ng]at hf
  split at hf
  ·rename_i e
   rcases aH.1 h with rfl|h
   ·exact e
   ·exact yU hf x h
  ·rename_i e;exact absurd hf e
theorem Ka{α:Type} [Rep α]{n:Nat}: ∀{l:List α},(∀x∈l,Rep.bulk x<=n)->bulkL l<=l.length*n+1
 |[],_=>by simp [bulkL]
 |x::l,h=>by
  have h1:=Ka (l:=l) λy hy=>h y (bg _ hy)
  have h2:=h x (bu ..)
  simp only[bulkL,au,fC];omega
theorem wN{a:kZ}(h:nC a=0):Rep.bulk a<=2200/\a.2.1.length<=8:=by
 have hb:Rep.bulk a=a.1.length+1+(bulkL a.2.1+1):=rfl
 unfold nC at h
 split at h
 ·rename_i hn
  split at h
  ·cases h
  ·rename_i h8
   have h1:=Mw hn
   have h2:=Ka (n:=260) λt ht=>wM (yU h t ht)
   omega
 ·cases h
theorem aaM{x:jZ}(h:vk x=0):Rep.bulk x<=3000:=by
 have hb:Rep.bulk x=1+((x.2.1.1.length+1+(bulkL x.2.1.2.1+1))+(1+(Rep.bulk x.2.2.2.1+(Rep.bulk x.2.2.2.2.1+1)))):=rfl
 have ht: ∀t:jM,Rep.bulk t=1+(1+(t.2.2.1.length+1+1)):=λ_=>rfl
 unfold vk at h
 split at h
 ·split at h
  ·rename_i hz
   obtain⟨-,h1,h2⟩:=hz
   have ha:=(wN h).1
   have hba:Rep.bulk x.2.1=x.2.1.1.length+1+(bulkL x.2.1.2.1+1):=rfl
   unfold yu at h1 h2
   simp only[aM,aL]at h1 h2
   rw[hb,ht,ht,h1.2,h2.2]
   simp only[aA];omega
  ·cases h
 ·split at h
  ·unfold Sd at h
   split at h
   ·cases h
   ·rename_i hz
    have e1:x.2.1.1=[]:=fw λhc=>hz (.inr (.inr (.inl hc)))
    have e2:x.2.1.2.1=[]:=fw λhc=>hz (.inr (.inr (.inr hc)))
    split at h
    ·rename_i hl
     have h1:=wM hl
     have h2:=wM h
     rw[hb,e1,e2]
     simp only[aA,bulkL];omega
    ·rename_i hl;exact absurd h hl
  ·cases h
theorem tF{c:jY}(h:lw c=0):Rep.bulk c<=1048576:=by
 have hb:Rep.bulk c=Rep.bulk c.1+bulkL c.2:=rfl
 unfold lw at h
 split at h
 ·rename_i ha
  split at h
  ·cases h
  ·have h1:=(wN ha).1
   have h2:=Ka (n:=3000) λx hx=>aaM (yU h x hx)
   omega
 ·rename_i ha;exact absurd h ha
theorem Mx(h:qI p=0):(∀c∈p,lw c=0)/\p.length<=512:=by
 unfold qI at h
 split at h
 ·cases h
 ·exact⟨yU h,zO⟩
theorem yV: ∀(l:List kZ) (ps:List kK),(kv ps l).2.1=0\/(kv ps l).2.1=30\/(kv ps l).2.1=31
 |[],_=> .inl rfl
 |a::l,ps=>by
  rw[xh]
  split
  ·split
   ·exact yV l ps
   ·exact .inr (.inl rfl)
  ·split
   ·exact .inr (.inr rfl)
   ·exact yV l _
theorem Ff: ∀(l m:List kZ) (ps:List kK),kv ps (l++m)=if(kv ps l).2.1=0 then kv (kv ps l).1 m else kv ps l
 |[],_,_=>by rw[aJ];exact(ah rfl).symm
 |a::l,m,ps=>by
  rw[aP,xh,xh]
  cases oQ ps a.1 with
  |some n=>
   simp only
   by_cases h:n=a.2.1.length
   ·rw[ah h,ah h];exact Ff l m ps
   ·rw[af h,af h,af zP]
  |none=>
   simp only
   by_cases h:128<=ps.length
   ·rw[ah h,ah h,af zP]
   ·rw[af h,af h];exact Ff l m _
theorem YQ{fs:List kZ}(hw:qI p=0)(h4:fs.length<=4096)(hg: ∀a∈fs,JE a=true):
  qG p fs=if(kv [] (p.flatMap kJ)).2.1≠0 then((kv [] (p.flatMap kJ)).2.1,0,(kv [] (p.flatMap kJ)).2.2)
   else if(kv (kv [] (p.flatMap kJ)).1 fs).2.1≠0 then((kv (kv [] (p.flatMap kJ)).1 fs).2.1,1,(kv (kv [] (p.flatMap kJ)).1 fs).2.2)else(0,0,0):=by
 have hf:(fs.find? λa=> !JE a)=none:=by rw[dF];intro a ha;simp [hg a ha]
 unfold qG
 rw[af (by simp [hw]),af zO,hf]
 simp only
 have hc:=yV (p.flatMap kJ) []
 generalize kv [] (p.flatMap kJ)=r at hc ⊢
 obtain⟨ps,n,o⟩:=r
 simp only at hc ⊢
 rcases hc with rfl|rfl|rfl
 ·have hd:=yV fs ps
  simp only
  generalize kv ps fs=r at hd ⊢
  obtain⟨qs,m,q⟩:=r
  simp only at hd ⊢
  rcases hd with rfl|rfl|rfl<;>rfl
 ·rfl
 ·rfl
end Edict
namespace Go.Ev
open Go Rep
theorem GY{α:Type} [Rep α]{k:Nat}{u:U}{h:H}{a:α}{cs:List Value}(e:TypeId)(hk:k<=h.size)(hr:rep u h a cs):lm k (ub u h.size (sz α)) (h.push (.cells cs.toArray e)) (.slice (some ⟨h.size,0,none⟩) 1 1) [a]:=by
 have hl:=Rep.len hr
 have:=lm.made (k:=k) u h hk e [a] cs (by simp [hl]) (by simp only[aZ];decide) (λi y hy=>by
  cases i with
  |zero=>
   simp only[bO,aQ]at hy
   subst hy
   rw[fB,eU,cB zO];exact hr
  |succ i=>simp at hy)
 simpa using this
end Go.Ev
namespace Go.Proofs.Z
open Go Go.Ev Edict
def WJ(vs:List Value)(h:H)(K:Value->H->Prop):Prop:= ∃(u:U) (v w:Value) (p:List jY) (fs:List kZ),vs=[.agg #[v],w]/\jS u h v p/\jS u h w fs/\Rep.wf p/\Rep.wf fs/\Ac u h/\ ∀u' h',jD S0 u h u' h'->K (fV (qG p fs)) h'
def ad2:lq:=λf vs h K _=>(f=62/\lL (vI qI) vs h K)\/(f=63/\SC vs h K)\/(f=28/\AC mU vs h K)\/(f=64/\Ow vs h K)
theorem Tp:lQ Tryz.prog ad2:=lY aaK (lY SE (lY JQ (pX Wq)))
theorem aaN{vs:List Value}{h:H}{K:Value->H->Prop}{KP:List PanicEntry->H->Prop}(hC:WJ vs h K):kN Tryz.prog 24 vs h K KP:=by
 obtain⟨u,v,w,p,fs,rfl,hl,hlf,hwp,hwf,hP,hK⟩:=hC
 obtain⟨la,lc,rfl,q1,q2⟩:=hl.sl
 obtain⟨fa,fc,rfl,q3,q4⟩:=hlf.sl
 have hm:=lC
 refine jJ 147609982417626087159 [((some (.c1 (.ldn 3) (.t 4))),(.o1 (.ldn 3) (.t 4)))] Tp Tryz.func24 ?_ (by kernel_rfl) (by apply c0 rfl;repeat' first|apply cS|apply cK|apply cL|apply cX|(apply cC zD)|(conv=>lhs;cbv;try simp only[Kw]))
 simp(disch:=first|omega|simp only[zz];try omega;done) only[↓reduceIte,go_sem]
 have sA:=jD.qZ S0 u h #[.slice la p.length lc] 24
 have A0:jR (ub u h.size 0) (h.push (.cells #[.slice la p.length lc] 24)) h.size [.slice la p.length lc]:=(jR.mk zY zE zE (by repeat (first|(refine lU ?_;simp only[];done)|apply kG)) zE)
 have sB:=jD.qZ S0 (ub u h.size 0) (h.push (.cells #[.slice la p.length lc] 24)) #[Jx JT 0,Jx JT 0,Jx JT 0] 27
 simp only[kw]at sB
 have F0:jR (ub (ub u h.size 0) (h.size+1) 0) ((h.push (.cells #[.slice la p.length lc] 24)).push (.cells #[Jx JT 0,Jx JT 0,Jx JT 0] 27)) (h.size+1) [Jx JT 0,Jx JT 0,Jx JT 0]:=(jR.mk zY zE zE (by repeat (first|(refine lU ?_;simp only[];done)|apply kG)) zE)
 have A1:=A0.sZ sB
 have st:=sA.tZ sB
 refine jC (.inl ⟨rfl,_,p,[.slice la p.length lc],rfl,⟨_,rfl,hl.mono st.ge⟩,hwp,λu1 h1 s1=>⟨jO,?_⟩⟩)
 have A2:=A1.sZ s1
 have F2:=F0.sZ s1
 have st2:=st.tZ s1
 simp only[vI]
 -- a fault is answered
 have fin: ∀(u':U) (h':H) (c x o:Int),jD S0 u h u' h'->jR u' h' (h.size+1) [Jx JT 0,Jx JT 0,Jx JT 0]->qG p fs=(c,x,o)->
   3<=lS (jW h' (h.size+1) 0 [Jx JT c,Jx JT x,Jx JT o]) (h.size+1)/\
   K (.agg #[Go.Ev.hv (jW h' (h.size+1) 0 [Jx JT c,Jx JT x,Jx JT o]) (h.size+1) 0,Go.Ev.hv (jW h' (h.size+1) 0 [Jx JT c,Jx JT x,Jx JT o]) (h.size+1) 1,Go.Ev.hv (jW h' (h.size+1) 0 [Jx JT c,Jx JT x,Jx JT o]) (h.size+1) 2])
    (jW h' (h.size+1) 0 [Jx JT c,Jx JT x,Jx JT o]):=λu' h' c x o s F hf=>by
  obtain⟨z0,z1,z2,z3⟩:=agO (v0:= Jx JT c) (v1:= Jx JT x) (v2:= Jx JT o) F.2.1
  rw[z0,z1,z2,z3]
  have:=hK _ _ (jD.rZ (b:=h.size+1) (o:=0) (l:=[Jx JT c,Jx JT x,Jx JT o]) s (.inl (fG _)) (by rw[F.2.2.2.1];exact ak _) (by rw[F.2.1];simp))
  rw[hf]at this
  exact⟨ak _,this⟩
 have Uc:=A2.1
 by_cases hw0:qI p=0
 ·have⟨hcw,hpl⟩:=Mx hw0
  simp only[↓reduceIte,go_sem,ai hw0]
  by_cases h4:4096<fs.length
  ·have hf:qG p fs=(24,1,0):=by unfold qG;rw[af (by simp [hw0]),ah h4]
   simp only[go_sem,ai (show(4096:Int)<fs.length by omega),F2.2.1,F2.2.2.1]
   exact fin _ _ _ _ _ st2 F2 hf
  ·simp only[go_sem,ae (show¬(4096:Int)<fs.length by omega)]
   refine jC (.inr (.inl ⟨rfl,u1,_,fs,rfl,hlf.mono st2.ge,hwf,hP.mono st2.ge,λu3 h3 s3 hg=>⟨jO,?_⟩,λu3 h3 i a s3 hia hga htk=>⟨jO,?_⟩⟩))
   ·have A3:=A2.sZ s3
    have F3:=F2.sZ s3
    have st3:=st2.tZ s3
    have hx3:=A3.1
    simp only[↓reduceIte,go_sem]
    refine xF u3 λu4 h4' s4 m4=>⟨jO,?_⟩
    rw[show(λ_=>none:List UInt8->Option Int)=oQ []from rfl]at m4
    have A4:=A3.sZ s4
    have F4:=F3.sZ s4
    have st4:=st3.tZ s4
    have hx4:=A4.1
    simp(disch:=first|omega|simp only[zz];try omega;done) only[↓reduceIte,go_sem,A4.at,A4.2.1]
    obtain⟨mb,hmb⟩:=kg h3.size
    have hmb1:h.size+1<mb:=by rw[hmb];exact F3.1
    rw[<-hmb]at m4 ⊢
    obtain⟨I,hI⟩:=kg (α:=Nat->ku->H->Prop) λi σ h'=>σ 1= .slice fa fs.length fc/\σ 4= .pointer (some ⟨h.size+1,0,none⟩)/\σ 7= .map (some mb)/\σ 36= .slice la p.length lc/\σ 37= Jx JT p.length/\σ 38= Jx JT i/\i<=p.length/\
     ∃(u':U) (pi:List kK),jD S0 u h u' h'/\jR u' h' (h.size+1) [Jx JT 0,Jx JT 0,Jx JT 0]/\oI h' mb (oQ pi) pi.length/\pi.length<=128/\kv [] (p.flatMap kJ)=kv pi ((p.drop i).flatMap kJ)
    refine jE I (λi=>p.length - i) 0 (by
     rw[hI]
     exact⟨zJ,zJ,zJ,zJ,zJ,zJ,aj _,u4,[],st4,F4,m4,aj _,rfl⟩) ?_
    clear A4 F4 st4 hx4 A3 F3 st3 hx3 m4 s4 s3 A2 F2 st2 Uc s1 hmb F0 A1 A0 sA sB st
    intro i σ h' hy
    rw[hI]at hy
    obtain⟨e1,e4,e7,e36,e37,e38,hi,u',pi,st,F,hM,hpi,heq⟩:=hy
    have hFl:=F.1
    by_cases hlt:i<p.length
    ·obtain⟨c,hs⟩:=qP hlt
     have hdr:p.drop i=c::p.drop (i+1):=by
      obtain⟨hi',rfl⟩:=aB.1 hs
      exact aN hi'
     rw[hdr,dD,Ff]at heq
     have hcb:=tF (hcw c (aF hs))
     obtain⟨hb1,hb2,hb3⟩:=tC hcb
     obtain⟨pb,po,rfl,hpb,hpu,hpz,hpr⟩:=(hl.mono st.ge).row i c hs
     rw[lH]at hpr
     obtain⟨va,vb,hpr,hh,hb⟩:=hpr
     obtain⟨ha,hc,rfl,-,-⟩:=hh.sl
     obtain⟨ba,bc,rfl,-,-⟩:=hb.sl
     simp only[nH,mQ,ax,aC]at hpr hpu hpz
     obtain⟨p0,p1,p2,p3⟩:=hpr
     have sp:=jD.qZ S0 u' h' #[str c.1.1,.slice ha c.1.2.1.length hc,Jx JT c.1.2.2,.slice ba c.2.length bc] 54
     have Y:jR (ub u' h'.size 0) (h'.push (.cells #[str c.1.1,.slice ha c.1.2.1.length hc,Jx JT c.1.2.2,.slice ba c.2.length bc] 54)) h'.size [str c.1.1,.slice ha c.1.2.1.length hc,Jx JT c.1.2.2,.slice ba c.2.length bc]:=(jR.mk zY zE zE (by repeat (first|(refine lU ?_;simp only[];done)|apply kG)) zE)
     have Fp:=F.sZ sp
     have Mp:=hM.step sp (λh=>h)
     have stp:=st.tZ sp
     have hhp:=hh.mono sp.ge
     have hbp:=hb.mono sp.ge
     have hmbl:=hM.lt
     simp(disch:=omega) only[↓reduceIte,go_sem,e36,e37,e38,hlt,p0,p1,p2,p3]
     obtain⟨hp,hhp0⟩:=kg (h'.push (.cells #[str c.1.1,.slice ha c.1.2.1.length hc,Jx JT c.1.2.2,.slice ba c.2.length bc] 54))
     have hhs:hp.size=h'.size+1:=by rw[hhp0];simp only[kw]
     rw[<-hhp0]at Y Fp Mp stp hhp hbp sp ⊢
     clear hhp0
     obtain⟨r,hr⟩:=kg (kv pi (kJ c))
     have hyl:=Y.1
     have hal:(mU c.2).length<=1048576:=by
      unfold mU
      rw[aU]
      have:=bW YC c.2
      have:=pq c.2
      omega
     have hclash: ∀(u6:U) (h6:H) (w:Value) (K':Value->H->Prop),jD S0 (ub u' h'.size 0) hp u6 h6->jS u6 h6 w (kJ c)->(∀u8 h8,jD (λj=>j=mb) u6 h6 u8 h8->oI h8 mb (oQ r.1) r.1.length->r.1.length<=128->K' (.tuple #[Jx JT r.2.1,Jx JT r.2.2]) h8)->Ow [.map (some mb),w] h6 K':=λu6 h6 w K' s6 hw6 hK'=>
      ⟨u6,mb,w,pi,kJ c,rfl,Mp.step s6 (λh=>h),hpi,hw6,λu8 h8 s8 m8 l8=>by
       rw[<-hr]at m8 l8
       rw[<-hr]
       exact hK' u8 h8 s8 m8 l8⟩
     refine vX (λσ' h2=>BR σ σ' [1,4,7,36,37,38]/\σ' 10= Jx JT r.2.1/\σ' 11= Jx JT r.2.2/\ ∃u2,jD S0 u h u2 h2/\jR u2 h2 (h.size+1) [Jx JT 0,Jx JT 0,Jx JT 0]/\oI h2 mb (oQ r.1) r.1.length/\r.1.length<=128) ?_ ?_
     ·have o1:=GY (k:=hp.size) (a:=c.1) 51 (ak _) (show Rep.rep (ub u' h'.size 0) hp c.1 [str c.1.1,.slice ha c.1.2.1.length hc,Jx JT c.1.2.2] by rw[kE];exact⟨_,rfl,hhp⟩)
      have s1:=jD.push S0 (ub u' h'.size 0) hp #[str c.1.1,.slice ha c.1.2.1.length hc,Jx JT c.1.2.2] 51 3
      have Y1:=Y.sZ s1
      have hy1:=Y1.1
      simp(disch:=first|omega|simp only[zz];try omega;done) only[↓reduceIte,go_sem,vQ,e1,e4,e7,e36,e37,e38,Y.at,Y.2.1]
      refine⟨jC (.inr (.inr (.inl ⟨rfl,_,_,c.2,rfl,hbp.mono s1.ge,hb1,λu5 h5 w s5 hw5=>⟨jO,?_⟩⟩))),jC (.inr (.inr (.inl ⟨rfl,_,_,c.2,rfl,hbp,hb1,λu5 h5 w s5 hw5=> ?_⟩)))⟩
      ·have o5:=o1.sZ s5
       have s15:=s1.tZ s5
       simp only[↓reduceIte,go_sem,jN]
       refine lV o5 hw5 rfl rfl s15.ge.sz (by simp only[aZ];omega) λa6 n6 c6 u6 h6 o6 s6=>⟨jO,?_⟩
       have s16:jD S0 (ub u' h'.size 0) hp u6 h6:=s15.trans s6 (λj hj hB=>by have:=o5.ge hB;omega)
       simp only[↓reduceIte,go_sem,e7]
       refine jC (.inr (.inr (.inr ⟨rfl,hclash u6 h6 _ _ s16 o6.iZ λu8 h8 s8 m8 l8=>⟨jO,?_⟩⟩)))
       have st8:jD S0 u h u8 h8:=(stp.tZ s16).trans s8 (λj hj e=>by have e:j=mb:=e;omega)
       have F8:=(Fp.sZ s16).step s8 (λe=>by have e:h.size+1=mb:=e;omega)
       simp(disch:=omega) only[↓reduceIte,go_sem,e1,e4,e7,e36,e37,e38]
       exact⟨_,st8,F8,m8,l8⟩
      ·have Y5:=Y.sZ s5
       have hy5:=Y5.1
       refine⟨by simp(disch:=first|omega|simp only[zz];try omega;done) only[↓reduceIte,go_sem,Y.at,Y5.at,Y5.2.1],?_⟩
       have o5:=GY (k:=hp.size) (a:=c.1) 51 s5.ge.sz (show Rep.rep u5 h5 c.1 [str c.1.1,.slice ha c.1.2.1.length hc,Jx JT c.1.2.2] by rw[kE];exact⟨_,rfl,hhp.mono s5.ge⟩)
       have s5b:=jD.push S0 u5 h5 #[str c.1.1,.slice ha c.1.2.1.length hc,Jx JT c.1.2.2] 51 3
       have s15:=s5.tZ s5b
       simp only[↓reduceIte,go_sem,jN]
       refine lV o5 (hw5.mono s5b.ge) rfl rfl s15.ge.sz (by simp only[aZ];omega) λa6 n6 c6 u6 h6 o6 s6=>⟨jO,?_⟩
       have s16:jD S0 (ub u' h'.size 0) hp u6 h6:=s15.trans s6 (λj hj hB=>by have:=o5.ge hB;omega)
       simp only[↓reduceIte,go_sem,e7]
       refine jC (.inr (.inr (.inr ⟨rfl,hclash u6 h6 _ _ s16 o6.iZ λu8 h8 s8 m8 l8=>⟨jO,?_⟩⟩)))
       have st8:jD S0 u h u8 h8:=(stp.tZ s16).trans s8 (λj hj e=>by have e:j=mb:=e;omega)
       have F8:=(Fp.sZ s16).step s8 (λe=>by have e:h.size+1=mb:=e;omega)
       simp(disch:=omega) only[↓reduceIte,go_sem,e1,e4,e7,e36,e37,e38]
       exact⟨_,st8,F8,m8,l8⟩
     ·rintro σ' h2 ⟨hkE,e10,e11,u2,s2,F2,M2,l2⟩
      simp only[go_sem,e1,e4,e7,e36,e37,e38]at hkE
      obtain⟨k1,k4,k7,k36,k37,k38⟩:=hkE
      have hFl2:=F2.1
      rw[<-hr]at heq
      by_cases hc0:r.2.1=0
      ·rw[ah hc0]at heq
       simp(disch:=omega) only[↓reduceIte,go_sem,k38,e10,ai hc0]
       refine⟨i+1,?_,zO⟩
       rw[hI]
       exact⟨by simp [jI,k1],by simp [jI,k4],by simp [jI,k7],by simp [jI,k36],by simp [jI,k37],zJ,hlt,u2,r.1,s2,F2,M2,l2,heq⟩
      ·rw[af hc0]at heq
       have hf:qG p fs=(r.2.1,0,r.2.2):=by rw[YQ hw0 zO hg,heq,ah hc0]
       simp only[↓reduceIte,go_sem,k4,e10,e11,ae hc0,F2.2.1,F2.2.2.1]
       exact fin _ _ _ _ _ s2 F2 hf
    ·obtain rfl:i=p.length:=zO
     rw[bB]at heq
     have heq:kv [] (p.flatMap kJ)=(pi,0,0):=heq
     have hmbl:=hM.lt
     simp only[↓reduceIte,go_sem,e1,e7,e37,e38]
     refine jC (.inr (.inr (.inr ⟨rfl,u',mb,_,pi,fs,rfl,hM,hpi,hlf.mono st.ge,λu8 h8 s8 m8 l8=>⟨jO,?_⟩⟩)))
     have st8:jD S0 u h u8 h8:=st.trans s8 (λj hj e=>by have e:j=mb:=e;omega)
     have F8:=F.step s8 (λe=>by have e:h.size+1=mb:=e;omega)
     have hFl8:=F8.1
     have hf:=YQ hw0 zO hg
     rw[heq]at hf
     simp only at hf
     rw[af zP]at hf
     generalize kv pi fs=r at hf m8 l8
     by_cases hc0:r.2.1=0
     ·rw[af (by simp [hc0])]at hf
      simp(disch:=omega) only[↓reduceIte,go_sem,e4,ai hc0,F8.2.1,F8.2.2.1]
      exact fin _ _ _ _ _ st8 F8 hf
     ·rw[ah hc0]at hf
      simp(disch:=omega) only[↓reduceIte,go_sem,e4,ae hc0,F8.2.1,F8.2.2.1]
      exact fin _ _ _ _ _ st8 F8 hf
   ·have hf:qG p fs=(2,1,a.2.2):=by
     have hfd:(fs.find? λa=> !JE a)=some a:=by
      rw[List.find?_eq_some_iff_getElem]
      obtain⟨hi,rfl⟩:=aB.1 hia
      refine⟨by simp [hga],i,hi,rfl,λj hj=> ?_⟩
      have:=htk fs[j] (List.mem_take_iff_getElem.2 ⟨j,zO,rfl⟩)
      simp [this]
     unfold qG
     rw[af (by simp [hw0]),af h4,hfd]
    have F3:=F2.sZ s3
    have st3:=st2.tZ s3
    have hil:=(aB.1 hia).1
    obtain⟨pb,po,hfa,hpb,hpu,hpz,hpr⟩:=(hlf.mono st3.ge).row i a hia
    subst hfa
    rw[kE]at hpr
    obtain⟨pv,hpr,hpv⟩:=hpr
    simp only[qK,uq,ax,aC]at hpr hpu hpz
    obtain⟨p0,p1,p2⟩:=hpr
    simp(disch:=omega) only[↓reduceIte,go_sem,ai hil,p2,F3.2.1,F3.2.2.1]
    exact fin _ _ _ _ _ st3 F3 hf
 ·have hf:qG p fs=(qI p,0,0):=by unfold qG;rw[ah hw0]
  simp only[↓reduceIte,go_sem,ae hw0,F2.2.1,F2.2.2.1]
  exact fin _ _ _ _ _ st2 F2 hf
end Go.Proofs.Z
namespace Go.Ev
open Go Rep
theorem QV(u:U)(h:H)(e:TypeId)(b:UInt8):KG h.size (ub u h.size 1) (h.push (.cells #[.int .u8 b.toNat] e)) (.slice (some ⟨h.size,0,none⟩) 1 1) [b]:=by
 refine .inr ⟨h.size,1,rfl,ak _,zD,ak _,zP,by rw[uo rfl];rfl,uS rfl,by simp [ub];rfl,λi x hx=> ?_⟩
 match i,hx with
 |0,hx=>
  cases hx
  show qV _ _ (0*1) 1=[.int .u8 b.toNat]
  rw[qR,yH rfl];rfl
 |i+1,hx=>simp at hx
theorem EH {G:lq} {d:Option Nat} {st:su} {r:List St} {K:ku->H->Prop} {KP:List PanicEntry->H->Prop} {σ:ku} {h:H} {k:Nat} {u:U} {v:Value} {l:List UInt8} (ho:KG k u h v l)
  (hK:mq st σ h h/\kT G r K KP (nD σ d (str l)) h):nZ G .b2s d st r K KP [v] σ h:=by
 rcases ho with⟨rfl,rfl⟩|⟨b,c,rfl,h1,h2,h3,h4,h5,h6,h7,h8⟩
 ·exact hK
 ·refine⟨by rw[h5,bJ];rw[szY];omega,l,?_,hK⟩
  apply dV
  intro i
  by_cases hi:i<l.length
  ·have hx:=h8 i l[i] (by simp [hi])
   rw[szY,dz,qR]at hx
   have hx:[Go.Ev.hv h b i]=[.int .u8 (l[i]).toNat]:=hx
   simp only[qV,bL,di hi,bn,bJ]
   simp only[ax,aC]at hx
   rw[hx];simp [hi,sG]
  ·simp [qV,dh (show l.length<=i by omega)];omega
theorem adg{n:Int}(h1:0<=n)(h2:n<=255):IntKind.u8.wrap n=n:=by
 have e:n % 256=n:=Int.emod_eq_of_lt h1 zO
 unfold IntKind.wrap
 simp [IntKind.bits,IntKind.signed,e]
end Go.Ev
namespace Edict
theorem aly(m:Int): ∃d q:Int,m.tmod 10=d/\m.tdiv 10=q/\ -9<=d/\d<=9/\q.natAbs=m.natAbs / 10:=by
 by_cases h:0<=m
 ·refine⟨_,_,rfl,rfl,?_⟩
  rw[ed h,fe h]
  omega
 ·obtain⟨p,hp⟩:=kg (-m)
  have hm:m= -p:=zO
  refine⟨_,_,rfl,rfl,?_⟩
  rw[hm,Int.neg_tmod,Int.neg_tdiv,ed zO,fe zO]
  omega
end Edict
namespace Go.Proofs.Z
open Go Go.Ev Edict
variable {vs:List Value} {h:H} {K:Value->H->Prop} {KP:List PanicEntry->H->Prop}
def ahE(vs:List Value)(h:H)(K:Value->H->Prop):Prop:= ∃(u:U) (c:UInt8),vs=[.int .u8 c.toNat]/\ ∀u' h' s,jD S0 u h u' h'->s.length<=4->K (str s) h'
theorem QW(hC:ahE vs h K):kN Tryz.prog 176 vs h K KP:=by
 obtain⟨u,c,rfl,hK⟩:=hC
 have hc:=c.toNat_lt
 refine jJ 529757 [(none,(.t 2))] (G:=(λ_ _ _ _ _=>False)) (λ_ _ _ _ _ h=>h.elim) Tryz.func176 ?_
 by_cases h1:(c.toNat:Int)=34
 ·simp only[↓reduceIte,go_sem,ai h1]
  exact hK u _ _ (.refl _ _ _) zD
 by_cases h2:(c.toNat:Int)=92
 ·simp only[↓reduceIte,go_sem,ae h1,ai h2]
  exact hK u _ _ (.refl _ _ _) zD
 by_cases h3:(c.toNat:Int)=10
 ·simp only[↓reduceIte,go_sem,ae h1,ae h2,ai h3]
  exact hK u _ _ (.refl _ _ _) zD
 by_cases h4:(c.toNat:Int)=9
 ·simp only[↓reduceIte,go_sem,ae h1,ae h2,ae h3,ai h4]
  exact hK u _ _ (.refl _ _ _) zD
 by_cases h5:(c.toNat:Int)=13
 ·simp only[↓reduceIte,go_sem,ae h1,ae h2,ae h3,ae h4,ai h5]
  exact hK u _ _ (.refl _ _ _) zD
 have fin1: ∀(r:List St) (Q:ku->H->Prop) (KP':List PanicEntry->H->Prop) (σ':ku),(∀h',h'=h.push (.cells #[.int .u8 c.toNat] 5)->kT (λ_ _ _ _ _=>False) r Q KP' (nD σ' (some 22) (str [c])) h')->nZ (λ_ _ _ _ _=>False) .b2s (some 22) [] r Q KP' [.slice (some ⟨h.size,0,none⟩) 1 1] σ' (h.push (.cells #[.int .u8 c.toNat] 5)):=λr Q KP' σ' hq=>
  EH (QV u h 5 c) ⟨by simp only[rE],hq _ rfl⟩
 have fin4: ∀(x y:UInt8) (r:List St) (Q:ku->H->Prop) (KP':List PanicEntry->H->Prop) (σ':ku),(∀h',h'=h.push (.cells #[.int .u8 92,.int .u8 120,.int .u8 x.toNat,.int .u8 y.toNat] 5)->kT (λ_ _ _ _ _=>False) r Q KP' (nD σ' (some 30) (str [92,120,x,y])) h')->nZ (λ_ _ _ _ _=>False) .b2s (some 30) [] r Q KP' [.slice (some ⟨h.size,0,none⟩) 4 4] σ' (h.push (.cells #[.int .u8 92,.int .u8 120,.int .u8 x.toNat,.int .u8 y.toNat] 5)):=λx y r Q KP' σ' hq=>by
  have o:= @lm.made UInt8 repB8 0 u h (aj _) 5 [92,120,x,y] [.int .u8 92,.int .u8 120,.int .u8 x.toNat,.int .u8 y.toNat] rfl (by simp only[au,aA];decide) (λi z hz=>by
   match i,hz with
   |0,hz=>cases hz;rfl
   |1,hz=>cases hz;rfl
   |2,hz=>cases hz;rfl
   |3,hz=>cases hz;rfl
   |i+4,hz=>simp at hz)
  exact EH o ⟨by simp only[rE],hq _ rfl⟩
 by_cases h6:(32:Int)<=c.toNat
 ·by_cases h7:(c.toNat:Int)<=126
  ·simp only[↓reduceIte,go_sem,ae h1,ae h2,ae h3,ae h4,ae h5,ai h6,ai h7]
   refine fin1 _ _ _ _ λh' hh=> ?_
   subst hh
   simp only[↓reduceIte,go_sem,jN]
   exact hK _ _ _ (jD.push S0 u h _ _ 1) (by show(1:Nat)<=4;decide)
  ·have hq0:0<=(c.toNat:Int) / 16/\(c.toNat:Int) / 16<16:=zO
   have hr0:0<=(c.toNat:Int).tmod 16/\(c.toNat:Int).tmod 16<16:=by rw[ed zO];omega
   simp(disch:=omega) only[↓reduceIte,go_sem,ae h1,ae h2,ae h3,ae h4,ae h5,ai h6,ae h7,Yq,adg]
   refine⟨zO,zO,zO,zO,?_⟩
   refine fin4 _ _ _ _ _ _ λh' hh=> ?_
   subst hh
   simp only[↓reduceIte,go_sem,jN]
   exact hK _ _ _ (jD.push S0 u h _ _ 4) (by show(4:Nat)<=4;decide)
 ·have hq0:0<=(c.toNat:Int) / 16/\(c.toNat:Int) / 16<16:=zO
  have hr0:0<=(c.toNat:Int).tmod 16/\(c.toNat:Int).tmod 16<16:=by rw[ed zO];omega
  simp(disch:=omega) only[↓reduceIte,go_sem,ae h1,ae h2,ae h3,ae h4,ae h5,ae h6,Yq,adg]
  refine⟨zO,zO,zO,zO,?_⟩
  refine fin4 _ _ _ _ _ _ λh' hh=> ?_
  subst hh
  simp only[↓reduceIte,go_sem,jN]
  exact hK _ _ _ (jD.push S0 u h _ _ 4) (by show(4:Nat)<=4;decide)
def ahF(vs:List Value)(h:H)(K:Value->H->Prop):Prop:= ∃(u:U) (n:Int),vs=[Jx JT n]/\ -9223372036854775808<=n/\n<=9223372036854775807/\ ∀u' h' s,jD S0 u h u' h'->s.length<=22->K (str s) h'
theorem NU(hC:ahF vs h K):kN Tryz.prog 175 vs h K KP:=by
 obtain⟨u,n,rfl,hn0,hn1,hK⟩:=hC
 refine jJ 41944125 [(none,(.t 2))] (G:=(λ_ _ _ _ _=>False)) (λ_ _ _ _ _ h=>h.elim) Tryz.func175 ?_
 simp only[↓reduceIte,go_sem]
 obtain⟨I,hI⟩:=kg (α:=Nat->ku->H->Prop) λk σ h'=>σ 0= Jx JT n/\ ∃(m:Int) (s:List UInt8),σ 4= Jx JT m/\σ 3=str s/\ -9223372036854775808<=m/\m<=9223372036854775807/\m.natAbs<10 ^ k/\s.length+k<=20/\ ∃u',jD S0 u h u' h'
 refine jE I (λk=>k) 20 (by rw[hI];exact⟨zJ,n,[],zJ,zJ,hn0,hn1,by have:(10:Nat) ^ 20=100000000000000000000:=rfl;omega,zD,u,.refl _ _ _⟩) ?_
 intro k σ h' hy
 rw[hI]at hy
 obtain⟨e0,m,s,e4,e3,hm0,hm1,hmk,hsk,u',st⟩:=hy
 obtain⟨d,q,hd,hq,hd0,hd1,hqa⟩:=aly m
 have hq0: -9223372036854775808<=q/\q<=9223372036854775807:=zO
 have fin: ∀e:Int,0<=e->e<=9-> ∃b:UInt8,IntKind.u8.wrap (48+e)=(b.toNat:Int):=λe h0 h1=>⟨UInt8.ofNat (48+e).toNat,by rw[adg zO zO,Sy zO];omega⟩
 have tail: ∀(b:UInt8) (σ':ku) (r:List St) (Q:ku->H->Prop) (KP':List PanicEntry->H->Prop),(∀h2,jD S0 u h (ub u' h'.size 1) h2->kT (λ_ _ _ _ _=>False) r Q KP' (nD σ' (some 17) (str [b])) h2)->nZ (λ_ _ _ _ _=>False) .b2s (some 17) [] r Q KP' [.slice (some ⟨h'.size,0,none⟩) 1 1] σ' (h'.push (.cells #[.int .u8 b.toNat] 5)):=λb σ' r Q KP' hq'=>
  EH (QV u' h' 5 b) ⟨by simp only[rE],hq' _ (st.tZ (jD.push S0 u' h' _ _ 1))⟩
 have hk0:k=0->m=0:=λe=>by subst e;have:(10:Nat) ^ 0=1:=rfl;omega
 have hpow: ∀j,k=j+1->q.natAbs<10 ^ j:=λj e=>by subst e;rw[hqa];have:(10:Nat) ^ (j+1)=10 ^ j*10:=jB ..;omega
 by_cases hdn:d<0
 ·obtain⟨b,hb⟩:=fin (0 - d) zO zO
  simp(disch:=omega) only[↓reduceIte,go_sem,e4,hd,ai hdn,hb]
  refine tail b _ _ _ _ λh2 s2=> ?_
  by_cases hq00:q=0
  ·by_cases hneg:n<0
   ·simp(disch:=omega) only[↓reduceIte,go_sem,e0,e3,e4,hq,ai hq00,ai hneg]
    repeat (refine⟨zO,?_⟩)
    exact hK _ _ _ s2 (by simp only[ay,au,aA];omega)
   ·simp(disch:=omega) only[↓reduceIte,go_sem,e0,e3,e4,hq,ai hq00,ae hneg]
    repeat (refine⟨zO,?_⟩)
    exact hK _ _ _ s2 (by simp only[ay,au,aA];omega)
  ·simp(disch:=omega) only[↓reduceIte,go_sem,e3,e4,hq,ae hq00]
   obtain⟨j,rfl⟩: ∃j,k=j+1:=⟨k - 1,by
    have:k≠0:=λe=>hq00 (by have:=hk0 e;omega)
    omega⟩
   refine⟨zO,?_⟩
   refine⟨j,?_,zO⟩
   rw[hI]
   exact⟨by simp [jI,e0],q,[b]++s,zJ,zJ,hq0.1,hq0.2,hpow j rfl,by simp only[ay,au,aA];omega,_,s2⟩
 ·obtain⟨b,hb⟩:=fin d zO zO
  simp(disch:=omega) only[↓reduceIte,go_sem,e4,hd,ae hdn,hb]
  refine tail b _ _ _ _ λh2 s2=> ?_
  by_cases hq00:q=0
  ·by_cases hneg:n<0
   ·simp(disch:=omega) only[↓reduceIte,go_sem,e0,e3,e4,hq,ai hq00,ai hneg]
    repeat (refine⟨zO,?_⟩)
    exact hK _ _ _ s2 (by simp only[ay,au,aA];omega)
   ·simp(disch:=omega) only[↓reduceIte,go_sem,e0,e3,e4,hq,ai hq00,ae hneg]
    repeat (refine⟨zO,?_⟩)
    exact hK _ _ _ s2 (by simp only[ay,au,aA];omega)
  ·simp(disch:=omega) only[↓reduceIte,go_sem,e3,e4,hq,ae hq00]
   obtain⟨j,rfl⟩: ∃j,k=j+1:=⟨k - 1,by
    have:k≠0:=λe=>hq00 (by have:=hk0 e;omega)
    omega⟩
   refine⟨zO,?_⟩
   refine⟨j,?_,zO⟩
   rw[hI]
   exact⟨by simp [jI,e0],q,[b]++s,zJ,zJ,hq0.1,hq0.2,hpow j rfl,by simp only[ay,au,aA];omega,_,s2⟩
def QX(vs:List Value)(h:H)(K:Value->H->Prop):Prop:= ∃(u:U) (c:jK),vs=[.agg (jK.enc c).toArray]/\Rep.wf c/\ ∀u' h' s,jD S0 u h u' h'->s.length<=1100->K (str s) h'
def adh:lq:=λf vs h K _=>(f=174/\lL (vB qN) vs h K)\/(f=175/\ahF vs h K)\/(f=176/\ahE vs h K)
theorem QY:lQ Tryz.prog adh:=lY JK (lY NU (pX QW))
theorem ZT{c:jK}(h:qN c=true):c.2.2.length<=256\/c.1=1:=by
 have h1:mY (c.1,c.2.1,c.2.2,0)=0\/c.1=4:=by
  by_cases h4:c.1=4
  ·exact .inr h4
  ·left;unfold mY;rw[af h4];unfold Cy;rw[ah h]
 rcases h1 with h1|h1
 ·have h6:1+(1+(c.2.2.length+1+1))<=260:=wM h1
  refine .inl ?_
  generalize c.2.2.length=n at h6 ⊢
  omega
 ·exfalso;unfold qN at h;rw[h1]at h;simp at h
theorem ZU(hC:QX vs h K):kN Tryz.prog 155 vs h K KP:=by
 obtain⟨u,⟨k,n,s⟩,rfl,hw,hK⟩:=hC
 refine jJ 8423071 [(none,(.t 2))] QY Tryz.func155 ?_
 have s1:=jD.qZ S0 u h #[Jx JT k,Jx JT n,str s] 108
 have B1:=jR.newc (u:=u) (h:=h) [Jx JT k,Jx JT n,str s] 108
 simp(disch:=omega) only[↓reduceIte,go_sem,jK.enc]
 refine jC (.inl ⟨rfl,ub u h.size 0,(k,n,s),[Jx JT k,Jx JT n,str s],rfl,by rw[mZ],hw,λu2 h2 s2=>⟨jO,?_⟩⟩)
 have st2:=s1.tZ s2
 have B2:=B1.sZ s2
 have b2l:=B2.1
 cases hv:qN (k,n,s)with
 |false=>
  simp only[↓reduceIte,go_sem,vB,hv]
  exact hK _ _ _ st2 zP
 |true=>
  have hlen:=ZT hv
  by_cases h1:k=1
  ·simp(disch:=first|omega|simp only[zz];try omega;done) only[↓reduceIte,go_sem,vB,hv,B2.at,B2.2.1,ai h1]
   refine jC (.inr (.inl ⟨rfl,u2,n,rfl,hw.2.1.1,hw.2.1.2,λu3 h3 x s3 hx=>⟨jO,?_⟩⟩))
   simp only[↓reduceIte,go_sem,jN]
   exact hK _ _ _ (st2.tZ s3) zO
  have hs:s.length<=256:=hlen.resolve_right h1
  by_cases h2:k=2
  ·simp(disch:=first|omega|simp only[zz];try omega;done) only[↓reduceIte,go_sem,vB,hv,B2.at,B2.2.1,ae h1,ai h2]
   exact hK _ _ _ st2 zO
  ·simp(disch:=first|omega|simp only[zz];try omega;done) only[↓reduceIte,go_sem,vB,hv,B2.at,B2.2.1,ae h1,ae h2]
   obtain⟨I,hI⟩:=kg (α:=Nat->ku->H->Prop) λi σ h'=>σ 1= .pointer (some ⟨h.size,0,none⟩)/\σ 4= Jx JT i/\i<=s.length/\ ∃u' x,jD S0 u h u' h'/\jR u' h' h.size [Jx JT k,Jx JT n,str s]/\σ 3=str x/\x.length<=1+4*i
   refine jE I (λi=>s.length - i) 0 (by rw[hI];exact⟨zJ,zJ,aj _,u2,[34],st2,B2,zJ,zD⟩) ?_
   intro i σ h' hy
   rw[hI]at hy
   obtain⟨e1,e4,hi,u',x,st,B,e3,hx⟩:=hy
   have bl:=B.1
   by_cases hlt:i<s.length
   ·simp(disch:=first|omega|simp only[zz];try omega;done) only[↓reduceIte,go_sem,e1,e4,hlt,B.at,B.2.1]
    refine jC (.inr (.inr ⟨rfl,u',s.getD i 0,rfl,λu3 h3 y s3 hy=>⟨jO,?_⟩⟩))
    simp(disch:=omega) only[↓reduceIte,go_sem,e3,e4]
    refine⟨zO,?_⟩
    refine⟨i+1,?_,zO⟩
    rw[hI]
    exact⟨by simp [jI,e1],zJ,hlt,u3,x++y,st.tZ s3,B.sZ s3,zJ,by rw[ay];omega⟩
   ·obtain rfl:i=s.length:=zO
    simp(disch:=first|omega|simp only[zz];try omega;done) only[↓reduceIte,go_sem,e1,e3,e4,B.at,B.2.1]
    refine⟨zO,?_⟩
    exact hK _ _ _ st (by rw[ay,aZ];omega)
def QZ(vs:List Value)(h:H)(K:Value->H->Prop):Prop:= ∃(u:U) (t:jM),vs=[.agg (jM.enc t).toArray]/\Rep.wf t/\ ∀u' h' s,jD S0 u h u' h'->s.length<=1100->K (str s) h'
def adi:lq:=λf vs h K _=>(f=153/\lL (vI mY) vs h K)\/(f=155/\QX vs h K)
theorem Ra:lQ Tryz.prog adi:=lY EU (pX ZU)
theorem ZV(hC:QZ vs h K):kN Tryz.prog 131 vs h K KP:=by
 obtain⟨u,t,rfl,hw,hK⟩:=hC
 refine jJ 1167 [(none,(.t 2))] Ra Tryz.func131 ?_
 have s1:=jD.qZ S0 u h #[Jx JT t.1,Jx JT t.2.1,str t.2.2.1,Jx JT t.2.2.2] 74
 have B1:=jR.newc (u:=u) (h:=h) [Jx JT t.1,Jx JT t.2.1,str t.2.2.1,Jx JT t.2.2.2] 74
 simp(disch:=omega) only[↓reduceIte,go_sem,jM.enc]
 refine jC (.inl ⟨rfl,ub u h.size 0,t,[Jx JT t.1,Jx JT t.2.1,str t.2.2.1,Jx JT t.2.2.2],rfl,by rw[ko];rfl,hw,λu2 h2 s2=>⟨jO,?_⟩⟩)
 have st2:=s1.tZ s2
 have B2:=B1.sZ s2
 have b2l:=B2.1
 by_cases hz:mY t=0
 ·have hlen:=wM hz
  have hb:Rep.bulk t=1+(1+(t.2.2.1.length+1+1)):=rfl
  by_cases h4:t.1=4
  ·simp(disch:=first|omega|simp only[zz];try omega;done) only[↓reduceIte,go_sem,vI,ai hz,B2.at,B2.2.1,ai h4]
   exact hK _ _ _ st2 zO
  ·simp(disch:=first|omega|simp only[zz];try omega;done) only[↓reduceIte,go_sem,vI,ai hz,B2.at,B2.2.1,ae h4]
   refine jC (.inr ⟨rfl,u2,(t.1,t.2.1,t.2.2.1),rfl,⟨hw.1,hw.2.1,hw.2.2.1⟩,λu3 h3 x s3 hx=>⟨jO,?_⟩⟩)
   simp only[↓reduceIte,go_sem,jN]
   exact hK _ _ _ (st2.tZ s3) hx
 ·simp only[↓reduceIte,go_sem,vI,ae hz]
  exact hK _ _ _ st2 zP
def Rb(vs:List Value)(h:H)(K:Value->H->Prop):Prop:= ∃(u:U) (v:Value) (l:lN),vs=[v]/\jS u h v l/\l.length<=8/\(∀s∈l,s.length<=1100)/\ ∀s,s.length<=10000->K (str s) h
theorem Rc(hC:Rb vs h K):kN Tryz.prog 156 vs h K KP:=by
 obtain⟨u,v,l,rfl,hl,h8,hs8,hK⟩:=hC
 obtain⟨la,lc,rfl,q1,q2⟩:=hl.sl
 refine jJ 4381 [(none,(.t 2))] (G:=(λ_ _ _ _ _=>False)) (λ_ _ _ _ _ h=>h.elim) Tryz.func156 ?_
 simp only[go_sem]
 obtain⟨I,hI⟩:=kg (α:=Nat->ku->H->Prop) λi σ h'=>σ 0= .slice la l.length lc/\σ 4= Jx JT i/\i<=l.length/\h'=h/\ ∃x,σ 3=str x/\x.length<=1102*i
 refine jE I (λi=>l.length - i) 0 (by rw[hI];exact⟨zJ,zJ,aj _,rfl,[],zJ,zD⟩) ?_
 intro i σ h' hy
 rw[hI]at hy
 obtain⟨e0,e4,hi,rfl,x,e3,hx⟩:=hy
 by_cases hlt:i<l.length
 ·obtain⟨s,hs⟩:=qP hlt
  have hsl:=hs8 s (aF hs)
  obtain⟨pb,po,rfl,hpb,hpu,hpz,hpr⟩:=hl.row i s hs
  simp only[mE,He,qR,ax,aC]at hpr hpu hpz
  by_cases h0:0<i
  ·simp(disch:=omega) only[↓reduceIte,go_sem,e0,e3,e4,hlt,hpr,ai (show(0:Int)<i by omega)]
   refine⟨zO,zO,?_⟩
   refine⟨i+1,?_,zO⟩
   rw[hI]
   exact⟨by simp [jI,e0],zJ,hlt,rfl,x++[44,32]++s,zJ,by simp only[ay,au,aA];omega⟩
  ·simp(disch:=omega) only[↓reduceIte,go_sem,e0,e3,e4,hlt,hpr,ae (show¬(0:Int)<i by omega)]
   refine⟨zO,?_⟩
   refine⟨i+1,?_,zO⟩
   rw[hI]
   exact⟨by simp [jI,e0],zJ,hlt,rfl,x++s,zJ,by simp only[ay];omega⟩
 ·obtain rfl:i=l.length:=zO
  simp only[↓reduceIte,go_sem,e0,e3,e4]
  exact hK _ zO
def Re(vs:List Value)(h:H)(K:Value->H->Prop):Prop:= ∃(u:U) (v:Value) (p:List UInt8) (l:lN),vs=[str p,v]/\jS u h v l/\p≠[]/\p.length<=10000/\l.length<=8/\(∀s∈l,s.length<=1100)/\ ∀s,s≠[]->K (str s) h
def Rf:lq:=λf vs h K _=>f=156/\Rb vs h K
theorem Jc:lQ Tryz.prog Rf:=by
 rintro f vs h K KP ⟨rfl,hC⟩;exact Rc hC
theorem NV(hC:Re vs h K):kN Tryz.prog 132 vs h K KP:=by
 obtain⟨u,v,p,l,rfl,hl,hp,hpl,h8,hs8,hK⟩:=hC
 obtain⟨la,lc,rfl,q1,q2⟩:=hl.sl
 refine jJ 147 [(none,(.t 4))] Jc Tryz.func132 ?_
 by_cases h0:l.length=0
 ·simp only[↓reduceIte,go_sem,ai (show(l.length:Int)=0 by omega)]
  exact hK _ hp
 ·simp only[↓reduceIte,go_sem,ae (show¬(l.length:Int)=0 by omega)]
  refine⟨zO,?_⟩
  refine jC ⟨rfl,u,_,l,rfl,hl,h8,hs8,λs hs=>⟨jO,?_⟩⟩
  simp only[↓reduceIte,go_sem,jN]
  repeat (refine⟨zO,?_⟩)
  exact hK _ (by cases p with|nil=>exact absurd rfl hp|cons x y=>simp)
def Rh(vs:List Value)(h:H)(K:Value->H->Prop):Prop:= ∃(u:U) (a:kZ) (l:List Value),vs=[.agg l.toArray]/\Rep.rep u h a l/\Rep.wf a/\ ∀u' h' s,jD S0 u h u' h'->(s=[]↔nC a≠0)->K (str s) h'
def adj:lq:=λf vs h K _=>(f=129/\lL (vI nC) vs h K)\/(f=131/\QZ vs h K)\/(f=132/\Re vs h K)
theorem Ri:lQ Tryz.prog adj:=lY Fa (lY ZV (pX NV))
theorem ZW{a:kZ}(h:nC a=0):a.1≠[]:=by
 intro e
 unfold nC at h
 rw[e]at h
 have:qY []=false:=rfl
 rw[this]at h
 simp at h
theorem ZX(hC:Rh vs h K):kN Tryz.prog 103 vs h K KP:=by
 obtain⟨u,a,l,rfl,ha,hw,hK⟩:=hC
 have har:=ha
 rw[kE]at ha
 obtain⟨aw,rfl,haa⟩:=ha
 obtain⟨aa,ac,rfl,q3,q4⟩:=haa.sl
 have hm:=lC
 refine jJ 33919 [(none,(.t 2))] Ri Tryz.func103 ?_
 have s1:=jD.qZ S0 u h #[str a.1,.slice aa a.2.1.length ac,Jx JT a.2.2] 51
 have B1:=jR.newc (u:=u) (h:=h) [str a.1,.slice aa a.2.1.length ac,Jx JT a.2.2] 51
 simp(disch:=omega) only[↓reduceIte,go_sem]
 refine jC (.inl ⟨rfl,ub u h.size 0,a,[str a.1,.slice aa a.2.1.length ac,Jx JT a.2.2],rfl,Rep.mono s1.ge har,hw,λu2 h2 s2=>⟨jO,?_⟩⟩)
 have st2:=s1.tZ s2
 have B2:=B1.sZ s2
 have hz2:=st2.ge.sz
 by_cases hz:nC a=0
 ·have hbk:=wN hz
  have hb:Rep.bulk a=a.1.length+1+(bulkL a.2.1+1):=rfl
  simp only[↓reduceIte,go_sem,vI,ai hz]
  obtain⟨I,hI⟩:=kg (α:=Nat->ku->H->Prop) λi σ h'=>σ 1= .pointer (some ⟨h.size,0,none⟩)/\σ 5= Jx JT i/\i<=a.2.1.length/\ ∃u' X,jD S0 u h u' h'/\jR u' h' h.size [str a.1,.slice aa a.2.1.length ac,Jx JT a.2.2]/\lm (h.size+1) u' h' (σ 4) X/\h.size+1<=h'.size/\X.length=i/\ ∀s∈(X:lN),s.length<=1100
  refine jE I (λi=>a.2.1.length - i) 0 (by rw[hI];exact⟨zJ,zJ,aj _,u2,[],st2,B2,by simp only[jI];exact .nil _ _ _,by have:=B2.1;omega,rfl,λs hs=>by simp at hs⟩) ?_
  intro i σ h' hy
  rw[hI]at hy
  obtain⟨e1,e5,hi,u',X,st,B,ho,hzz,hXl,hXs⟩:=hy
  have bl:=B.1
  by_cases hlt:i<a.2.1.length
  ·obtain⟨x,hs⟩: ∃x,a.2.1[i]? =some x:=⟨a.2.1[i],by simp [hlt]⟩
   obtain⟨pb,po,rfl,hpb,hpu,hpz,hpr⟩:=(haa.mono st.ge).row i x hs
   simp only[ko,jM.enc,lG,mQ,ax,aC]at hpr hpu hpz
   obtain⟨p0,p1,p2,p3⟩:=hpr
   simp(disch:=first|omega|simp only[zz];try omega;done) only[↓reduceIte,go_sem,e1,e5,B.at,B.2.1,hlt,p0,p1,p2,p3]
   refine jC (.inr (.inl ⟨rfl,u',x,rfl,hw.2.1.2 x (aF hs),λu3 h3 y s3 hy=>⟨jO,?_⟩⟩))
   have ho3:=ho.sZ s3
   have hz3:=s3.ge.sz
   have hry:Rep.rep u3 h3 y [str y]:=by rw[mE]
   simp only[↓reduceIte,go_sem]
   refine lM (e':=9) (cs:=[str y]) ho3 hry rfl rfl zO zO λa9 n9 c9 u9 h9 o9 s9=>⟨jO,?_⟩
   simp(disch:=omega) only[↓reduceIte,go_sem,e5]
   refine⟨i+1,?_,zO⟩
   rw[hI]
   refine⟨by simp [jI,e1],zJ,hlt,u9,X++[y],(st.tZ s3).own s9 λj hj=>(by have:=ho3.ge hj;omega),(B.sZ s3).step s9 λhj=>(by have:=ho3.ge hj;omega),by simpa [jI]using o9,by have:=s9.ge.sz;omega,by rw[ay,hXl];rfl,λs hs=> ?_⟩
   rcases aV.1 hs with hs|hs
   ·exact hXs s hs
   ·rcases aY.1 hs with rfl;exact hy
  ·obtain rfl:i=a.2.1.length:=zO
   obtain⟨xa,xc,hσ4,-,-⟩:=ho.sl
   have hoi:=ho.iZ
   rw[hσ4]at hoi
   simp(disch:=first|omega|simp only[zz];try omega;done) only[↓reduceIte,go_sem,e1,e5,B.at,B.2.1,hσ4]
   refine jC (.inr (.inr ⟨rfl,u',_,a.1,X,rfl,hoi,ZW hz,zO,zO,hXs,λs hs=>⟨jO,?_⟩⟩))
   simp only[↓reduceIte,go_sem,jN]
   exact hK _ _ _ st ⟨λe=>absurd e hs,λe=>absurd hz e⟩
 ·simp only[↓reduceIte,go_sem,vI,ae hz]
  exact hK _ _ _ st2 ⟨λ_=>hz,λ_=>rfl⟩
def Mc(vs:List Value)(h:H)(K:Value->H->Prop):Prop:= ∃(u:U) (a:kZ) (l:List Value),vs=[.agg l.toArray]/\Rep.rep u h a l/\Rep.wf a/\ ∀u' h',jD S0 u h u' h'->K (.bool (JE a)) h'
def VA:lq:=λf vs h K _=>f=103/\Rh vs h K
theorem KH:lQ Tryz.prog VA:=by
 rintro f vs h K KP ⟨rfl,hC⟩;exact ZX hC
theorem Rj(hC:Mc vs h K):kN Tryz.prog 75 vs h K KP:=by
 obtain⟨u,a,l,rfl,ha,hw,hK⟩:=hC
 have har:=ha
 rw[kE]at ha
 obtain⟨aw,rfl,haa⟩:=ha
 obtain⟨aa,ac,rfl,q3,q4⟩:=haa.sl
 have hm:=lC
 refine jJ 1050703 [(none,(.t 2))] KH Tryz.func75 ?_
 have s1:=jD.qZ S0 u h #[str a.1,.slice aa a.2.1.length ac,Jx JT a.2.2] 51
 have B1:=jR.newc (u:=u) (h:=h) [str a.1,.slice aa a.2.1.length ac,Jx JT a.2.2] 51
 simp(disch:=omega) only[↓reduceIte,go_sem]
 refine jC ⟨rfl,ub u h.size 0,a,[str a.1,.slice aa a.2.1.length ac,Jx JT a.2.2],rfl,Rep.mono s1.ge har,hw,λu2 h2 s s2 hs=>⟨jO,?_⟩⟩
 have st2:=s1.tZ s2
 have B2:=B1.sZ s2
 by_cases hz:nC a=0
 ·have hne:s≠[]:=λe=>hs.1 e hz
  have hg:JE a=a.2.1.all λt=> !decide (t.1=4):=by unfold JE;rw[bq hz,dI]
  rw[hg]at hK
  simp only[↓reduceIte,go_sem,ae hne]
  obtain⟨I,hI⟩:=kg (α:=Nat->ku->H->Prop) λi σ h'=>σ 1= .pointer (some ⟨h.size,0,none⟩)/\σ 3= Jx JT i/\i<=a.2.1.length/\h'=h2/\(a.2.1.take i).all (λt=> !decide (t.1=4))=true
  refine jE I (λi=>a.2.1.length - i) 0 (by rw[hI];exact⟨zJ,zJ,aj _,rfl,rfl⟩) ?_
  intro i σ h' hy
  rw[hI]at hy
  obtain⟨e1,e3,hi,rfl,hall⟩:=hy
  have bl:=B2.1
  by_cases hlt:i<a.2.1.length
  ·obtain⟨x,hx⟩: ∃x,a.2.1[i]? =some x:=⟨a.2.1[i],by simp [hlt]⟩
   obtain⟨pb,po,rfl,hpb,hpu,hpz,hpr⟩:=(haa.mono st2.ge).row i x hx
   simp only[ko,jM.enc,lG,mQ,ax,aC]at hpr hpu hpz
   obtain⟨p0,p1,p2,p3⟩:=hpr
   by_cases h4:x.1=4
   ·have hf:(a.2.1.all λt=> !decide (t.1=4))=false:=by
     rw[List.all_eq_false]
     exact⟨x,aF hx,by simp [h4]⟩
    rw[hf]at hK
    simp(disch:=first|omega|simp only[zz];try omega;done) only[↓reduceIte,go_sem,e1,e3,B2.at,B2.2.1,hlt,p0,ai h4]
    exact hK _ _ st2
   ·simp(disch:=first|omega|simp only[zz];try omega;done) only[↓reduceIte,go_sem,e1,e3,B2.at,B2.2.1,hlt,p0,ae h4]
    refine⟨i+1,?_,zO⟩
    rw[hI]
    refine⟨by simp [jI,e1],zJ,hlt,rfl,?_⟩
    rw[aX,hx,bC,iU,hall]
    simp [h4]
  ·obtain rfl:i=a.2.1.length:=zO
   rw[aK]at hall
   rw[hall]at hK
   simp(disch:=first|omega|simp only[zz];try omega;done) only[↓reduceIte,go_sem,e1,e3,B2.at,B2.2.1]
   exact hK _ _ st2
 ·have he:s=[]:=hs.2 hz
  have hg:JE a=false:=by unfold JE;rw[aI hz,dU]
  rw[hg]at hK
  subst he
  simp only[↓reduceIte,go_sem,jN]
  exact hK _ _ st2
end Go.Proofs.Z
namespace Go.Proofs.Z
open Go Go.Ev Edict
def QU(vs:List Value)(h:H)(K:Value->H->Prop):Prop:= ∃(u:U) (v w:Value) (p:List jY) (fs:List kZ),vs=[.agg #[v],w]/\jS u h v p/\jS u h w fs/\Rep.wf p/\Rep.wf fs/\ ∀u' h',jD S0 u h u' h'->K (fV (wF p fs)) h'
def ZR:lq:=λf vs h K _=>(f=74/\lL (vI qI) vs h K)\/(f=75/\Mc vs h K)
theorem NT:lQ Tryz.prog ZR:=lY aaL (pX Rj)
theorem Vz{vs:List Value}{h:H}{K:Value->H->Prop}{KP:List PanicEntry->H->Prop}(hC:QU vs h K):kN Tryz.prog 34 vs h K KP:=by
 obtain⟨u,v,w,p,fs,rfl,hl,hf,hwp,hwf,hK⟩:=hC
 obtain⟨la,lc,rfl,q1,q2⟩:=hl.sl
 obtain⟨fa,fc,rfl,q3,q4⟩:=hf.sl
 have hm:=lC
 refine jJ 269517943 [((some (.c1 (.ldn 3) (.t 4))),(.o1 (.ldn 3) (.t 4)))] NT Tryz.func34 ?_
 have s1:=jD.qZ S0 u h #[.slice la p.length lc] 24
 have s2:=jD.qZ S0 (ub u h.size 0) (h.push (.cells #[.slice la p.length lc] 24)) #[Jx JT 0,Jx JT 0,Jx JT 0] 27
 have B2:=jR.newc (u:=ub u h.size 0) (h:=h.push (.cells #[.slice la p.length lc] 24)) [Jx JT 0,Jx JT 0,Jx JT 0] 27
 have st2:=s1.tZ s2
 obtain⟨u2,hu2⟩:=kg (ub (ub u h.size 0) (h.size+1) 0)
 simp only[kw]at B2 st2
 rw[<-hu2]at B2 st2
 simp(disch:=first|omega|simp only[zz];try omega;done) only[↓reduceIte,go_sem]
 refine jC (.inl ⟨rfl,u2,p,[.slice la p.length lc],rfl,by rw[mf];exact⟨_,rfl,hl.mono st2.ge⟩,hwp,λu3 h3 s3=>⟨jO,?_⟩⟩)
 have st3:=st2.tZ s3
 have B3:=B2.sZ s3
 have b3l:=B3.1
 have out: ∀(a b c:Int) (u':U) (h':H),jD S0 u h u' h'->jR u' h' (h.size+1) [Jx JT 0,Jx JT 0,Jx JT 0]->wF p fs=(a,b,c)->K (fV (a,b,c)) (jW h' (h.size+1) 0 [Jx JT a,Jx JT b,Jx JT c])/\jR u' (jW h' (h.size+1) 0 [Jx JT a,Jx JT b,Jx JT c]) (h.size+1) [Jx JT a,Jx JT b,Jx JT c]:=λa b c u' h' st B e=>by
  have sw:=B.stepSets (l:=[Jx JT a,Jx JT b,Jx JT c]) rfl
  refine⟨?_,B.sets rfl⟩
  rw[<-e]
  exact hK _ _ (st.own sw λj e=>by have e:j=h.size+1:=e;omega)
 by_cases hw:qI p=0
 ·by_cases hlen:4096<fs.length
  ·have hg:wF p fs=(24,1,0):=by unfold wF;rw[af (by simp [hw]),ah hlen]
   obtain⟨k1,k2⟩:=out 24 1 0 u3 h3 st3 B3 hg
   simp(disch:=first|omega|simp only[zz];try omega;done) only[↓reduceIte,go_sem,vI,ai hw,ai (show(4096:Int)<fs.length by omega),B3.2.1,B3.2.2.1,k2.at,k2.2.1]
   exact k1
  ·simp only[↓reduceIte,go_sem,vI,ai hw,ae (show¬(4096:Int)<fs.length by omega)]
   obtain⟨I,hI⟩:=kg (α:=Nat->ku->H->Prop) λi σ h'=>σ 1= .slice fa fs.length fc/\σ 4= .pointer (some ⟨h.size+1,0,none⟩)/\σ 6= Jx JT i/\i<=fs.length/\(∀a∈fs.take i,JE a=true)/\ ∃u',jD S0 u h u' h'/\jR u' h' (h.size+1) [Jx JT 0,Jx JT 0,Jx JT 0]
   refine jE I (λi=>fs.length - i) 0 (by rw[hI];exact⟨zJ,zJ,zJ,aj _,λa ha=>by simp at ha,u3,st3,B3⟩) ?_
   intro i σ h' hy
   rw[hI]at hy
   obtain⟨e1,e4,e6,hi,hall,u',st,B⟩:=hy
   have bl:=B.1
   by_cases hlt:i<fs.length
   ·obtain⟨x,hs⟩:=qP hlt
    obtain⟨pb,po,rfl,hpb,hpu,hpz,hpr⟩:=(hf.mono st.ge).row i x hs
    have hprs:=hpr
    rw[kE]at hpr
    obtain⟨va,hpr,hh⟩:=hpr
    rw[hpr]at hprs
    simp only[qK,uq,ax,aC]at hpr hpu hpz
    obtain⟨p0,p1,p2⟩:=hpr
    simp(disch:=omega) only[↓reduceIte,go_sem,e1,e6,hlt,p0,p1,p2]
    refine jC (.inr ⟨rfl,u',x,[str x.1,va,Jx JT x.2.2],rfl,hprs,hwf.2 x (aF hs),λu4 h4 s4=>⟨jO,?_⟩⟩)
    have st4:=st.tZ s4
    have B4:=B.sZ s4
    have b4l:=B4.1
    cases hg:JE x with
    |true=>
     simp(disch:=omega) only[↓reduceIte,go_sem,e6]
     refine⟨i+1,?_,zO⟩
     rw[hI]
     refine⟨by simp [jI,e1],by simp [jI,e4],zJ,hlt,λa ha=> ?_,u4,st4,B4⟩
     rw[aX,hs,bC,aV,aY]at ha
     rcases ha with ha|rfl
     ·exact hall a ha
     ·exact hg
    |false=>
     have hgv:wF p fs=(2,1,x.2.2):=by
      unfold wF
      rw[af (by simp [hw]),af hlen,Oc (f:=λa=> !JE a) hs (λs hs=>by rw[hall s hs];rfl) (by rw[hg];rfl)]
     obtain⟨k1,k2⟩:=out 2 1 x.2.2 u4 h4 st4 B4 hgv
     obtain⟨pb',po',hpe,hpb',hpu',hpz',hpr'⟩:=(hf.mono st4.ge).row i x hs
     simp only[aQ,Addr.mk.injEq,aC]at hpe
     obtain⟨rfl,rfl⟩:=hpe
     rw[kE]at hpr'
     obtain⟨va',hpr',-⟩:=hpr'
     simp only[qK,uq,ax,aC]at hpr' hpu' hpz'
     simp(disch:=first|omega|simp only[zz];try omega;done) only[↓reduceIte,go_sem,e1,e4,e6,hlt,hpr'.2.2,B4.2.1,B4.2.2.1,k2.at,k2.2.1]
     exact k1
   ·obtain rfl:i=fs.length:=zO
    rw[aK]at hall
    have hgv:wF p fs=(0,0,0):=by
     unfold wF
     rw[af (by simp [hw]),af hlen,dF.2 (λa ha=>by rw[hall a ha];simp)]
    obtain⟨k1,k2⟩:=out 0 0 0 u' h' st B hgv
    simp(disch:=first|omega|simp only[zz];try omega;done) only[↓reduceIte,go_sem,e1,e4,e6,B.2.1,B.2.2.1,k2.at,k2.2.1]
    exact k1
 ·have hg:wF p fs=(qI p,0,0):=by unfold wF;rw[ah hw]
  obtain⟨k1,k2⟩:=out (qI p) 0 0 u3 h3 st3 B3 hg
  simp(disch:=first|omega|simp only[zz];try omega;done) only[↓reduceIte,go_sem,vI,ae hw,B3.2.1,B3.2.2.1,k2.at,k2.2.1]
  exact k1
end Go.Proofs.Z
namespace Go.Ev
def sF:S->S| .seq a _=>a|s=>s
def sS:S->S| .seq _ b=>b|s=>s
end Go.Ev
namespace Edict
theorem MC(l:List sj)(r:sj):(rX l r).length<=l.length+1:=by unfold rX;split<;>simp
end Edict
namespace Go.Proofs.Z
open Go Go.Ev Edict
theorem wL.ge{k:Nat}{u:U}{h:H}{b mp mc:Nat}{vP vC vR vF:Value}{ps:List kK}{cs:List jK}{rs:List oq}{fs:List sj}(B:wL k u h b mp mc vP vC vR vF ps cs rs fs){i:Nat}(hi:qQ b mp mc vP vC vR vF i):k<=i:=by
 rcases hi with rfl|rfl|rfl|hi|hi|hi|hi
 ·exact B.kb
 ·exact B.kp
 ·exact B.kc
 ·exact B.oP.ge hi
 ·exact B.oC.ge hi
 ·exact B.oR.ge hi
 ·exact B.oF.ge hi
def ma:lq:=λf vs h K _=>(f=24/\WJ vs h K)\/(f=25/\Ou vs h K)\/(f=26/\OI vs h K)\/(f=27/\Eh vs h K)\/(f=28/\AC mU vs h K)\/
 (f=29/\Kh vs h K)\/(f=30/\YI kC vs h K)\/(f=31/\OJ vs h K)\/(f=32/\WK vs h K)\/(f=33/\yX vs h K)
theorem OP:lQ Tryz.prog ma:=lY aaN (lY Wn (lY WH (lY WI (lY JQ (lY Tt (lY SF (lY WL (lY aaP (pX Kg)))))))))
section
variable {vs:List Value} {h:H} {K:Value->H->Prop} {KP:List PanicEntry->H->Prop}
theorem agW(hC:WJ vs h K):ma 24 vs h K KP:= .inl ⟨rfl,hC⟩
theorem aea(hC:Ou vs h K):ma 25 vs h K KP:= .inr (.inl ⟨rfl,hC⟩)
theorem aeb(hC:OI vs h K):ma 26 vs h K KP:= .inr (.inr (.inl ⟨rfl,hC⟩))
theorem Ki(hC:Eh vs h K):ma 27 vs h K KP:= .inr (.inr (.inr (.inl ⟨rfl,hC⟩)))
theorem Tv(hC:AC mU vs h K):ma 28 vs h K KP:= .inr (.inr (.inr (.inr (.inl ⟨rfl,hC⟩))))
theorem ME(hC:Kh vs h K):ma 29 vs h K KP:= .inr (.inr (.inr (.inr (.inr (.inl ⟨rfl,hC⟩)))))
theorem ajt(hC:YI kC vs h K):ma 30 vs h K KP:= .inr (.inr (.inr (.inr (.inr (.inr (.inl ⟨rfl,hC⟩))))))
theorem YS(hC:OJ vs h K):ma 31 vs h K KP:= .inr (.inr (.inr (.inr (.inr (.inr (.inr (.inl ⟨rfl,hC⟩)))))))
theorem agX(hC:WK vs h K):ma 32 vs h K KP:= .inr (.inr (.inr (.inr (.inr (.inr (.inr (.inr (.inl ⟨rfl,hC⟩))))))))
theorem Tw(hC:yX vs h K):ma 33 vs h K KP:= .inr (.inr (.inr (.inr (.inr (.inr (.inr (.inr (.inr ⟨rfl,hC⟩))))))))
end
/-! ### Build's parts -/
def Tx:S:=sS xU
def bT3:S:=sS Tx
def bT4:S:=sS bT3
def bT5:S:=sS bT4
def bT6:S:=sS bT5
def bT7:S:=sS bT6
def bT8:S:=sS bT7
def bT9:S:=sS bT8
def WT:S:=sS bT9
def aju:S:=sS WT
theorem ajv:xU= .seq (sF xU) Tx:=rfl
theorem agZ:Tx= .seq (sF Tx) bT3:=rfl
theorem ag0:bT3= .seq (sF bT3) bT4:=rfl
theorem ag1:bT4= .seq (sF bT4) bT5:=rfl
theorem ag2:bT5= .seq (sF bT5) bT6:=rfl
theorem ag3:bT6= .seq (sF bT6) bT7:=rfl
theorem ag4:bT7= .seq (sF bT7) bT8:=rfl
theorem ag5:bT8= .seq (sF bT8) bT9:=rfl
theorem ag6:bT9= .seq (sF bT9) WT:=rfl
theorem aed:WT= .seq (sF WT) aju:=rfl
structure Ue (u0:U) (h0:H) (p:List jY) (fs:List kZ) (la fa:Option Addr) (lc fc p2 p4 p5 b k:Nat) (σ:ku) (u:U) (h:H):Prop where
 e1:σ 1= .slice fa fs.length fc
 e2:σ 2= .pointer (some ⟨p2,0,none⟩)
 e4:σ 4= .pointer (some ⟨p4,0,none⟩)
 e5:σ 5= .pointer (some ⟨p5,0,none⟩)
 e8:σ 8= .pointer (some ⟨b,0,none⟩)
 st:jD S0 u0 h0 u h
 A:jR u h p2 [.slice la p.length lc]
 C:jR u h p4 [.slice none 0 0,.slice none 0 0,.slice none 0 0,.slice none 0 0]
 F:jR u h p5 [Jx JT 0,Jx JT 0,Jx JT 0]
 lt:h0.size<=p2/\h0.size<=p4/\h0.size<=p5/\p2<k/\p4<k/\p5<k/\p2≠p4/\p2≠p5/\p4≠p5/\h0.size<=k/\k<=h.size
theorem Ue.step {u0:U} {h0:H} {p:List jY} {fs:List kZ} {la fa:Option Addr} {lc fc p2 p4 p5 b k:Nat} {σ:ku} {u:U} {h:H} (X:Ue u0 h0 p fs la fa lc fc p2 p4 p5 b k σ u h) {S:Nat->Prop} {u':U} {h':H} (s:jD S u h u' h') (hS: ∀i,S i->k<=i) (σ':ku)
  (g1:σ' 1=σ 1) (g2:σ' 2=σ 2) (g4:σ' 4=σ 4) (g5:σ' 5=σ 5) (g8:σ' 8=σ 8):Ue u0 h0 p fs la fa lc fc p2 p4 p5 b k σ' u' h' where
 e1:=g1.trans X.e1
 e2:=g2.trans X.e2
 e4:=g4.trans X.e4
 e5:=g5.trans X.e5
 e8:=g8.trans X.e8
 st:=X.st.trans s λi hi hs=>by have:=hS i hs;have:=X.lt;omega
 A:=X.A.step s λhs=>by have:=hS _ hs;have:=X.lt;omega
 C:=X.C.step s λhs=>by have:=hS _ hs;have:=X.lt;omega
 F:=X.F.step s λhs=>by have:=hS _ hs;have:=X.lt;omega
 lt:=by have:=X.lt;have:=s.ge.sz;omega
def Kb(u0:U)(h0:H)(p:List jY)(fs:List kZ)(K:Value->H->Prop):Prop:= ∀u' h' l,jD S0 u0 h0 u' h'->Rep.rep u' h' (qi p fs).1 l->K (.tuple #[.agg l.toArray,fV (qi p fs).2]) h'
theorem Ej{u:U}{h:H}{k:Gn}{v0 v1 v2 v3:Value}(h0:jS u h v0 k.1)(h1:jS u h v1 k.2.1)(h2:jS u h v2 k.2.2.1)(h3:jS u h v3 k.2.2.2):Rep.rep u h k [v0,v1,v2,v3]:=
 ⟨[v0],[v1,v2,v3],rfl,⟨_,rfl,h0⟩,[v1],[v2,v3],rfl,⟨_,rfl,h1⟩,[v2],[v3],rfl,⟨_,rfl,h2⟩,⟨_,rfl,h3⟩⟩
theorem ag7 {K:Value->H->Prop} {KP:List PanicEntry->H->Prop} {u0:U} {h0:H} {p:List jY} {fs:List kZ} {la fa:Option Addr} {lc fc p2 p4 p5 b k:Nat} {σ:ku} {u:U} {h:H} {mp mc:Nat} {vP vC vR vF:Value} {ps:List kK} {cs:List jK} {rs:List oq} {rows:List sj}
  (X:Ue u0 h0 p fs la fa lc fc p2 p4 p5 b k σ u h) (B:wL k u h b mp mc vP vC vR vF ps cs rs rows) (hb:qi p fs=((ps,cs,rs,rows),0,0,0)) (hK:Kb u0 h0 p fs K):wpS ma aju (uK qz (pz K KP)) σ h:=by
 obtain⟨z1,z2,z3,z4,z5,z6,z7,z8,z9⟩:=B.open
 obtain⟨pa,pc,rfl,-,-⟩:=B.oP.sl
 obtain⟨ca,cc,rfl,-,-⟩:=B.oC.sl
 obtain⟨ra,rc,rfl,-,-⟩:=B.oR.sl
 obtain⟨wa,wc,rfl,-,-⟩:=B.oF.sl
 have F:=X.F
 have C:=X.C
 have lt:=X.lt
 have hFl:=F.1
 have hCl:=C.1
 have sw1:jD (λj=>j=p4) u h u (jW h p4 0 [.slice pa ps.length pc,.slice ca cs.length cc,.slice ra rs.length rc,.slice wa rows.length wc]):=jD.sets u h _ rfl (by rw[C.2.2.2.1];exact ak _) (by rw[C.2.1];exact ak _)
 have F1:=F.step sw1 (λe=>lt.2.2.2.2.2.2.2.2.1 (by have e:p5=p4:=e;exact e.symm))
 have C1:=C.sets (l:=[.slice pa ps.length pc,.slice ca cs.length cc,.slice ra rs.length rc,.slice wa rows.length wc]) rfl
 have sw2:jD (λj=>j=p5) u (jW h p4 0 [.slice pa ps.length pc,.slice ca cs.length cc,.slice ra rs.length rc,.slice wa rows.length wc]) u (jW (jW h p4 0 [.slice pa ps.length pc,.slice ca cs.length cc,.slice ra rs.length rc,.slice wa rows.length wc]) p5 0 [Jx JT 0,Jx JT 0,Jx JT 0]):=jD.sets u _ _ rfl (by rw[F1.2.2.2.1];exact ak _) (by rw[F1.2.1];exact ak _)
 have C2:=C1.step sw2 (λe=>lt.2.2.2.2.2.2.2.2.1 (by have e:p4=p5:=e;exact e))
 have F2:=F1.sets (l:=[Jx JT 0,Jx JT 0,Jx JT 0]) rfl
 simp(disch:=first|omega|simp only[zz];try omega;done) only[↓reduceIte,go_sem,aju,WT,bT9,bT8,bT7,bT6,bT5,bT4,bT3,Tx,sS,xU,qz,X.e4,X.e5,X.e8,z1,z3,z4,z5,z6,C.2.1,C.2.2.1,F1.2.1,F1.2.2.1,C2.at,C2.2.1,F2.at,F2.2.1]
 have:=hK u _ [.slice pa ps.length pc,.slice ca cs.length cc,.slice ra rs.length rc,.slice wa rows.length wc] ((X.st.trans sw1 (λj hj e=>by have e:j=p4:=e;omega)).trans sw2 (λj hj e=>by have e:j=p5:=e;omega)) (by rw[hb];exact Ej ((B.oP.iZ.mono sw1.ge).mono sw2.ge) ((B.oC.iZ.mono sw1.ge).mono sw2.ge) ((B.oR.iZ.mono sw1.ge).mono sw2.ge) ((B.oF.iZ.mono sw1.ge).mono sw2.ge))
 rw[hb]at this
 exact this
theorem ag8 {K:Value->H->Prop} {KP:List PanicEntry->H->Prop} {u0:U} {h0:H} {p:List jY} {fs:List kZ} {la fa:Option Addr} {lc fc p2 p4 p5 b k:Nat} {σ:ku} {u:U} {h:H} {mp mc ms:Nat} {vP vC vR vF:Value} {ps:List kK} {cs:List jK} {rs:List oq} {rows:List sj}
  (X:Ue u0 h0 p fs la fa lc fc p2 p4 p5 b k σ u h) (e17:σ 17= .map (some ms)) (hlf:jS u0 h0 (.slice fa fs.length fc) fs) (B:wL k u h b mp mc vP vC vR vF ps cs rs rows) (M:wP ksK zu h ms (nJ (rows.map BO)) rows.length) (hms: ¬qQ b mp mc vP vC vR vF ms) (hkm:k<=ms)
  (hps:ps.length<=1048576) (hcs:cs.length<=65536) (hrw:rows.length+fs.length<=1048576) (h8: ∀a∈fs,a.2.1.length<=8/\ ∀t∈a.2.1,Rep.wf (jU t)) (hfl:fs.length<=4096)
  (hb:qi p fs=((ps,cs,rs,fs.foldl (λl a=>rX l (ou ps cs a)) rows),0,0,0)) (hK:Kb u0 h0 p fs K):wpS ma WT (uK qz (pz K KP)) σ h:=by
 rw[aed]
 simp only[↓reduceIte,go_sem,WT,bT9,bT8,bT7,bT6,bT5,bT4,bT3,Tx,sS,sF,xU,X.e1]
 obtain⟨I,hI⟩:=kg (α:=Nat->ku->H->Prop) λi σ' h'=>σ' 17= .map (some ms)/\σ' 151= .slice fa fs.length fc/\σ' 152= Jx JT fs.length/\σ' 153= Jx JT i/\i<=fs.length/\
  ∃(u':U) (vi:Value) (ri:List sj),Ue u0 h0 p fs la fa lc fc p2 p4 p5 b k σ' u' h'/\wL k u' h' b mp mc vP vC vR vi ps cs rs ri/\wP ksK zu h' ms (nJ (ri.map BO)) ri.length/\ ¬qQ b mp mc vP vC vR vi ms/\ri.length<=rows.length+i/\
   fs.foldl (λl a=>rX l (ou ps cs a)) rows=(fs.drop i).foldl (λl a=>rX l (ou ps cs a)) ri
 refine jE I (λi=>fs.length - i) 0 (by
  rw[hI]
  exact⟨by simp [jI,e17],zJ,zJ,zJ,aj _,u,vF,rows,X.step (S:=S0) (.refl _ _ _) (λ_ h=>h.elim) _ zJ zJ zJ zJ zJ,B,M,hms,ak _,rfl⟩) ?_
 clear B M hms X e17
 intro i σ h' hy
 rw[hI]at hy
 obtain⟨e17,e151,e152,e153,hi,u',vi,ri,X,B,M,hms,hrl,heq⟩:=hy
 by_cases hlt:i<fs.length
 ·obtain⟨x,hs⟩:=qP hlt
  have hdr:fs.drop i=x::fs.drop (i+1):=by
   obtain⟨hi',rfl⟩:=aB.1 hs
   exact aN hi'
  rw[hdr,bN]at heq
  have hx:=h8 x (aF hs)
  obtain⟨pb,po,rfl,hpb,hpu,hpz,hpr⟩:=(hlf.mono X.st.ge).row i x hs
  have hprs:=hpr
  rw[kE]at hpr
  obtain⟨pv,hpr,hpv⟩:=hpr
  obtain⟨pva,pvc,rfl,r1,r2⟩:=hpv.sl
  have hcells:=hpr
  simp only[qK,uq,ax,aC]at hpr hpu hpz
  obtain⟨p0,p1,p2'⟩:=hpr
  have sp:=jD.qZ S0 u' h' #[str x.1,.slice pva x.2.1.length pvc,Jx JT x.2.2] 51
  rw[hcells]at hprs
  have hlt2:=X.lt
  have tJ:k<=h'.size:=X.lt.2.2.2.2.2.2.2.2.2.2
  simp(disch:=omega) only[↓reduceIte,go_sem,Cq,X.e8,e17,e151,e152,e153,hlt,p0,p1,p2']
  refine jC (YS ⟨k,ub u' h'.size 0,b,mp,mc,ms,vP,vC,vR,vi,_,x,ps,cs,rs,ri,rfl,Rep.mono sp.ge hprs,B.step sp (λ_ _ h=>h),M.step sp (λh=>h),hms,hx.1,hx.2,hps,hcs,zO,zY,λu3 h3 vj s3 B3 M3 b3=>⟨jO,?_⟩⟩)
  simp(disch:=omega) only[↓reduceIte,go_sem,e153]
  refine⟨i+1,?_,zO⟩
  rw[hI]
  have hfl2:=MC ri (ou ps cs x)
  have X1:=X.step sp (λ_ h=>h.elim) σ rfl rfl rfl rfl rfl
  have hml:=M.lt
  refine⟨by simp [jI,e17],by simp [jI,e151],by simp [jI,e152],zJ,hlt,u3,vj,_,X1.step s3 (λj hj=>hj.elim (λe=>zO) (λhj=>B.ge hj)) _ zJ zJ zJ zJ zJ,B3,M3,?_,zO,heq⟩
  intro hj
  rcases hj with hj|hj|hj|hj|hj|hj|hj
  ·exact hms (.inl hj)
  ·exact hms (.inr (.inl hj))
  ·exact hms (.inr (.inr (.inl hj)))
  ·exact hms (.inr (.inr (.inr (.inl hj))))
  ·exact hms (.inr (.inr (.inr (.inr (.inl hj)))))
  ·exact hms (.inr (.inr (.inr (.inr (.inr (.inl hj))))))
  ·rcases b3 _ hj with hj|hj
   ·exact hms (.inr (.inr (.inr (.inr (.inr (.inr hj))))))
   ·simp only[kw]at hj;omega
 ·obtain rfl:i=fs.length:=zO
  rw[bB,List.foldl_nil]at heq
  rw[heq]at hb
  simp only[↓reduceIte,go_sem,Cq,e152,e153]
  exact ag7 (X.step (S:=S0) (.refl _ _ _) (λ_ h=>h.elim) _ zJ zJ zJ zJ zJ) B hb hK
end Go.Proofs.Z
namespace Edict
theorem Tu(ps:List kK)(cs:List jK)(st:List oq×List sj)(n:Nat)(c:jY)(l:List jY):sV ps cs st n (c::l)=sV ps cs (Az ps cs st n c) (n+1) l:=rfl
theorem ad9(ls:List jZ):(jF ls).length<=Go.Ev.bulkL ls:=by
 have h1:=vM ls []
 have h2:=DZ ls
 unfold jF
 simp only[aA]at h1
 omega
end Edict
namespace Go.Proofs.Z
open Go Go.Ev Edict
variable {b:Nat} {cs:List jK} {h:H} {k mc mp:Nat} {ps:List kK} {u:U} {vC vF vP vR:Value}
theorem wL.putR {u2:U} {h2:H} {vR':Value} {rs rs':List oq} {fs:List sj} (B:wL k u h b mp mc vP vC vR vF ps cs rs fs)
  (o2:lm k u2 h2 vR' rs') (s2:jD (jL vR) u h u2 h2) (hb: ∀i,jL vR' i->jL vR i\/h.size<=i):
  wL k u2 (ky h2 b 2 vR') b mp mc vP vC vR' vF ps cs rs' fs/\jD (qQ b mp mc vP vC vR vF) u h u2 (ky h2 b 2 vR'):=by
 have D:=B.dis
 simp only[Eg,bD,aH,cO,or_false,forall_eq_or_imp,forall_eq,List.Pairwise.nil,aC,false_imp_iff,implies_true]at D
 obtain⟨⟨d1,d2,d3,d4,d5,d6⟩,⟨d7,d8,d9,d10,d11⟩,⟨d12,d13,d14,d15⟩,⟨d16,d17,d18⟩,⟨d19,d20⟩,d21⟩:=D
 have X2:=B.blk.step s2 d5
 have P2:=B.oP.step s2 (λi hi e=>d17 i hi e)
 have C2:=B.oC.step s2 (λi hi e=>d19 i hi e)
 have F2:=B.oF.step s2 (λi hi e=>d21 i e hi)
 have mP2:=B.mP.step s2 d10
 have mC2:=B.mC.step s2 d14
 have hnew: ∀j,j<h.size-> ¬jL vR j-> ¬jL vR' j:=λj hj hn hv=>(hb j hv).elim hn (λh=>zO)
 have sw:jD (λi=>i=b) u2 h2 u2 (ky h2 b 2 vR'):=jD.set u2 h2 vR' rfl (by rw[X2.2.2.2.1];exact aj _)
 have sall:jD (qQ b mp mc vP vC vR vF) u h u2 (ky h2 b 2 vR'):=(s2.mono (S':=qQ b mp mc vP vC vR vF) (λi _ hi=> .inr (.inr (.inr (.inr (.inr (.inl hi))))))).trans sw (λi _ e=> .inl e)
 have hR'b: ¬jL vR' b:=hnew b B.blk.1 d5
 have hpl: ∀j,jL vP j-> ¬jL vR' j:=λj hj=>hnew j (B.oP.lt hj) (λhv=>d17 j hj hv)
 have hcl: ∀j,jL vC j-> ¬jL vR' j:=λj hj=>hnew j (B.oC.lt hj) (λhv=>d19 j hj hv)
 have hfl: ∀j,jL vF j-> ¬jL vR' j:=λj hj=>hnew j (B.oF.lt hj) (λhv=>d21 j hv hj)
 refine⟨⟨X2.set (i:=2) (v:=vR') zP,nL P2 d3 X2.2.2.2.1,nL C2 d4 X2.2.2.2.1,nL o2 hR'b X2.2.2.2.1,nL F2 d6 X2.2.2.2.1,mP2.step sw (λe=>d1 (by have e:mp=b:=e;rw[e])),mC2.step sw (λe=>d2 (by have e:mc=b:=e;rw[e])),?_,B.kb,B.kp,B.kc⟩,sall⟩
 simp only[Eg,bD,aH,cO,or_false,forall_eq_or_imp,forall_eq,List.Pairwise.nil,aC,false_imp_iff,implies_true]
 exact⟨⟨d1,d2,d3,d4,hR'b,d6⟩,⟨d7,d8,d9,hnew mp B.mP.lt d10,d11⟩,⟨d12,d13,hnew mc B.mC.lt d14,d15⟩,⟨d16,hpl,d18⟩,⟨hcl,d20⟩,λj hv hj=>hfl j hj hv⟩
theorem ajs {K:Value->H->Prop} {KP:List PanicEntry->H->Prop} {u0:U} {h0:H} {p:List jY} {fs:List kZ} {la fa:Option Addr} {lc fc p2 p4 p5:Nat} {σ:ku} {ms:Nat}
  (X:Ue u0 h0 p fs la fa lc fc p2 p4 p5 b k σ u h) (e17:σ 17= .map (some ms)) (hl:jS u0 h0 (.slice la p.length lc) p) (hlf:jS u0 h0 (.slice fa fs.length fc) fs) (B:wL k u h b mp mc vP vC vR vF ps cs [] []) (M:wP ksK zu h ms (nJ (([]:List sj).map BO)) 0) (hms: ¬qQ b mp mc vP vC vR vF ms) (hkm:k<=ms)
  (hps:ps.length<=131072) (hcs:cs.length<=65536) (hpl:p.length<=512) (hpc: ∀c∈p,lw c=0) (hpw: ∀c∈p,∀t∈kC c,Rep.wf (jU t)) (h8: ∀a∈fs,a.2.1.length<=8/\ ∀t∈a.2.1,Rep.wf (jU t)) (hfl:fs.length<=4096)
  (hb:qi p fs=((ps,cs,(sV ps cs ([],[]) 0 p).1,fs.foldl (λl a=>rX l (ou ps cs a)) (sV ps cs ([],[]) 0 p).2),0,0,0)) (hK:Kb u0 h0 p fs K):wpS ma bT9 (uK qz (pz K KP)) σ h:=by
 rw[ag6]
 have hA:=X.A
 have hA1:=hA.1
 simp(disch:=first|omega|simp only[zz];try omega;done) only[↓reduceIte,go_sem,bT9,bT8,bT7,bT6,bT5,bT4,bT3,Tx,sS,sF,xU,X.e2,hA.at,hA.2.1]
 obtain⟨I,hI⟩:=kg (α:=Nat->ku->H->Prop) λi σ' h'=>σ' 17= .map (some ms)/\σ' 94= .slice la p.length lc/\σ' 95= Jx JT p.length/\σ' 96= Jx JT i/\i<=p.length/\
  ∃(u':U) (vR' vF':Value) (ri:List oq) (wi:List sj),Ue u0 h0 p fs la fa lc fc p2 p4 p5 b k σ' u' h'/\wL k u' h' b mp mc vP vC vR' vF' ps cs ri wi/\wP ksK zu h' ms (nJ (wi.map BO)) wi.length/\ ¬qQ b mp mc vP vC vR' vF' ms/\ri.length<=i/\wi.length<=i/\
   sV ps cs ([],[]) 0 p=sV ps cs (ri,wi) i (p.drop i)
 refine jE I (λi=>p.length - i) 0 (by
  rw[hI]
  exact⟨by simp [jI,e17],zJ,zJ,zJ,aj _,u,vR,vF,[],[],X.step (S:=S0) (.refl _ _ _) (λ_ h=>h.elim) _ zJ zJ zJ zJ zJ,B,M,hms,ak _,ak _,rfl⟩) ?_
 clear B M hms X e17 hA hA1
 intro i σ h' hy
 rw[hI]at hy
 obtain⟨e17,e94,e95,e96,hi,u',vR',vF',ri,wi,X,B,M,hms,hrl,hwl,heq⟩:=hy
 by_cases hlt:i<p.length
 ·obtain⟨c,hs⟩:=qP hlt
  have hdr:p.drop i=c::p.drop (i+1):=by
   obtain⟨hi',rfl⟩:=aB.1 hs
   exact aN hi'
  rw[hdr,Tu]at heq
  have hmem:=aF hs
  have hcW:=hpc c hmem
  have hcb:=tF hcW
  have hwc:=hpw c hmem
  obtain⟨hb1,hb2,hb3⟩:=tC hcb
  have hh8:c.1.2.1.length<=8:=by
   unfold lw at hcW
   split at hcW
   ·rename_i ha;exact(wN ha).2
   ·rename_i ha;exact absurd hcW ha
  obtain⟨pb,po,rfl,hpb,hpu,hpz,hpr⟩:=(hl.mono X.st.ge).row i c hs
  rw[lH]at hpr
  obtain⟨va,vb,hpr,hh,hbd⟩:=hpr
  obtain⟨ha,hc,rfl,-,-⟩:=hh.sl
  obtain⟨ba,bc,rfl,-,-⟩:=hbd.sl
  simp only[nH,mQ,ax,aC]at hpr hpu hpz
  obtain⟨q0,q1,q2,q3⟩:=hpr
  have sp:=jD.qZ S0 u' h' #[str c.1.1,.slice ha c.1.2.1.length hc,Jx JT c.1.2.2,.slice ba c.2.length bc] 54
  have Y:jR (ub u' h'.size 0) (h'.push (.cells #[str c.1.1,.slice ha c.1.2.1.length hc,Jx JT c.1.2.2,.slice ba c.2.length bc] 54)) h'.size [str c.1.1,.slice ha c.1.2.1.length hc,Jx JT c.1.2.2,.slice ba c.2.length bc]:=(jR.mk zY zE zE (by repeat (first|(refine lU ?_;simp only[];done)|apply kG)) zE)
  have Bp:=B.step sp (λ_ _ h=>h)
  have Mp:=M.step sp (λh=>h)
  have hXl:=X.lt
  have hml:=M.lt
  have X1:=X.step sp (λ_ h=>h.elim) σ rfl rfl rfl rfl rfl
  by_cases hc0:c.2=[]
  ·have hst:Az ps cs (ri,wi) i c=(ri,rX wi (ou ps cs c.1)):=by unfold Az;rw[ah hc0]
   rw[hst]at heq
   have hl0:c.2.length=0:=by rw[hc0];rfl
   simp(disch:=omega) only[↓reduceIte,go_sem,Vk,X.e8,e17,e94,e95,e96,hlt,q0,q1,q2,q3,ai (show((c.2.length:Nat):Int)=0 by omega)]
   refine jC (YS ⟨k,ub u' h'.size 0,b,mp,mc,ms,vP,vC,vR',vF',[str c.1.1,.slice ha c.1.2.1.length hc,Jx JT c.1.2.2],c.1,ps,cs,ri,wi,rfl,by rw[kE];exact⟨_,rfl,hh.mono sp.ge⟩,Bp,Mp,hms,hh8,λt ht=>hwc t (by unfold kC;exact aV.2 (.inl ht)),zO,hcs,zO,zY,λu3 h3 vj s3 B3 M3 b3=>⟨jO,?_⟩⟩)
   simp(disch:=omega) only[↓reduceIte,go_sem,e96]
   refine⟨i+1,?_,zO⟩
   rw[hI]
   have hfl2:=MC wi (ou ps cs c.1)
   refine⟨by simp [jI,e17],by simp [jI,e94],by simp [jI,e95],zJ,hlt,u3,vR',vj,ri,_,X1.step s3 (λj hj=>hj.elim (λe=>zO) (λhj=>B.ge hj)) _ zJ zJ zJ zJ zJ,B3,M3,?_,zO,zO,heq⟩
   intro hj
   rcases hj with hj|hj|hj|hj|hj|hj|hj
   ·exact hms (.inl hj)
   ·exact hms (.inr (.inl hj))
   ·exact hms (.inr (.inr (.inl hj)))
   ·exact hms (.inr (.inr (.inr (.inl hj))))
   ·exact hms (.inr (.inr (.inr (.inr (.inl hj)))))
   ·exact hms (.inr (.inr (.inr (.inr (.inr (.inl hj))))))
   ·rcases b3 _ hj with hj|hj
    ·exact hms (.inr (.inr (.inr (.inr (.inr (.inr hj))))))
    ·simp only[kw]at hj;omega
  ·have hst:Az ps cs (ri,wi) i c=(ri++[RY ps cs i c],wi):=by unfold Az;rw[af hc0]
   rw[hst]at heq
   have hl0: ¬c.2.length=0:=λh=>hc0 (bX h)
   have hvl:=ad9 c.2
   simp(disch:=omega) only[↓reduceIte,go_sem,Vk,X.e8,e94,e95,e96,hlt,q0,q1,q2,q3,ae (show¬((c.2.length:Nat):Int)=0 by omega)]
   refine jC (agX ⟨k,ub u' h'.size 0,b,mp,mc,_,vP,vC,vR',vF',c.2,ps,cs,ri,wi,rfl,hbd.mono sp.ge,Bp,hb1,λx hx t ht=>hwc t (by unfold kC;exact aV.2 (.inr (dG.2 ⟨x,hx,ht⟩))),λu3 h3 mv n l s3 hr hM hn hmv=>⟨jO,?_⟩⟩)
   rw[sK]at hr
   obtain⟨v0,v1,v2,v3,v4,rfl,i0,i1,i2,i3,i4⟩:=hr
   obtain⟨a0,c0,rfl,-,-⟩:=i0.sl
   obtain⟨a1,c1,rfl,-,-⟩:=i1.sl
   obtain⟨a2,c2,rfl,-,-⟩:=i2.sl
   obtain⟨a3,c3,rfl,-,-⟩:=i3.sl
   obtain⟨a4,c4,rfl,-,-⟩:=i4.sl
   simp only[YD]at i0 i1 i2 i3 i4 ⊢
   have Y3:=Y.sZ s3
   have hy3:=Y3.1
   have B3:=Bp.step s3 (λ_ _ h=>h)
   have M3:=Mp.step s3 (λh=>h)
   have X3:=X1.step s3 (λ_ h=>h.elim) σ rfl rfl rfl rfl rfl
   simp(disch:=first|omega|simp only[zz];try omega;done) only[↓reduceIte,go_sem]
   have sR:=jD.qZ S0 u3 h3 #[Jx JT 0,.slice a0 0 c0,.slice a1 (ry ps cs [] c.2).length c1,.slice a2 (mK cs (jF c.2) c.2).length c2,.slice a3 (om ps cs (jF c.2) c.2).length c3,.slice a4 (jF c.2).length c4,Jx JT i] 87
   have R4:jR (ub u3 h3.size 0) (h3.push (.cells #[Jx JT 0,.slice a0 0 c0,.slice a1 (ry ps cs [] c.2).length c1,.slice a2 (mK cs (jF c.2) c.2).length c2,.slice a3 (om ps cs (jF c.2) c.2).length c3,.slice a4 (jF c.2).length c4,Jx JT i] 87)) h3.size [Jx JT 0,.slice a0 0 c0,.slice a1 (ry ps cs [] c.2).length c1,.slice a2 (mK cs (jF c.2) c.2).length c2,.slice a3 (om ps cs (jF c.2) c.2).length c3,.slice a4 (jF c.2).length c4,Jx JT i]:=(jR.mk zY zE zE (by repeat (first|(refine lU ?_;simp only[];done)|apply kG)) zE)
   have sN:=jD.qZ S0 (ub u3 h3.size 0) (h3.push (.cells #[Jx JT 0,.slice a0 0 c0,.slice a1 (ry ps cs [] c.2).length c1,.slice a2 (mK cs (jF c.2) c.2).length c2,.slice a3 (om ps cs (jF c.2) c.2).length c3,.slice a4 (jF c.2).length c4,Jx JT i] 87)) #[Jx JT (jF c.2).length] 3
   have R5:=R4.sZ sN
   have Y5:=(Y3.sZ sR).sZ sN
   have B5:=(B3.step sR (λ_ _ h=>h)).step sN (λ_ _ h=>h)
   have M5:=(M3.step sR (λh=>h)).step sN (λh=>h)
   have X5:=(X3.step sR (λ_ h=>h.elim) σ rfl rfl rfl rfl rfl).step sN (λ_ h=>h.elim) σ rfl rfl rfl rfl rfl
   have V5:=(hM.step sR (λh=>h)).step sN (λh=>h)
   have j1:=(i1.mono sR.ge).mono sN.ge
   have j2:=(i2.mono sR.ge).mono sN.ge
   have j3:=(i3.mono sR.ge).mono sN.ge
   have j4:=(i4.mono sR.ge).mono sN.ge
   have hh5:=(((hh.mono sp.ge).mono s3.ge).mono sR.ge).mono sN.ge
   have hsz3:=s3.ge.sz
   simp only[kw]at sN R5 Y5 B5 M5 X5 V5 j1 j2 j3 j4 hh5 hsz3
   obtain⟨h5,hh5e⟩:=kg ((h3.push (.cells #[Jx JT 0,.slice a0 0 c0,.slice a1 (ry ps cs [] c.2).length c1,.slice a2 (mK cs (jF c.2) c.2).length c2,.slice a3 (om ps cs (jF c.2) c.2).length c3,.slice a4 (jF c.2).length c4,Jx JT i] 87)).push (.cells #[Jx JT (jF c.2).length] 3))
   obtain⟨u5,hu5e⟩:=kg (ub (ub u3 h3.size 0) (h3.size+1) 0)
   rw[<-hh5e,<-hu5e]at R5 Y5 B5 X5 j1 j2 j3 j4 hh5
   rw[<-hh5e]at M5 V5 ⊢
   obtain⟨pr,hpr⟩:=kg h3.size
   obtain⟨pn,hpn⟩:=kg (h3.size+1)
   rw[<-hpr]at R5 ⊢
   have hp1:k<=pr/\pr≠ms/\pr≠mv/\pr≠h'.size/\h'.size<pr:=by have:=M3.lt;have:=hM.lt;omega
   have hp2: ¬qQ b mp mc vP vC vR' vF' pr:=λhj=>by have:=B3.lt hj;omega
   clear hh5e hu5e sR sN R4 hM i0 i1 i2 i3 i4 s3 B3 M3 X3 Y3 hy3
   have hr5:=R5.1
   have hy5:=Y5.1
   obtain⟨w1,w2,w3,w4,w5,w6,w7,w8,w9⟩:=B5.open
   have hpid:(nJ (ps.map (·.1)) c.1.1).getD 0=uI ps c.1.1:=rfl
   have hslots: ∀(K':Value->H->Prop),(∀u6 h6 (wa:Option Addr) (wc:Nat),jD S0 u5 h5 u6 h6->jS u6 h6 (.slice wa (c.1.2.1.map (mi cs (jF c.2))).length wc) (c.1.2.1.map (mi cs (jF c.2)))->K' (.slice wa (c.1.2.1.map (mi cs (jF c.2))).length wc) h6)->
     yX [.pointer (some ⟨b,0,none⟩),.slice ha c.1.2.1.length hc,.map (some mv),.pointer (some ⟨pr+1,0,none⟩),.bool false] h5 K':=λK' hK'=>by
    refine⟨k,u5,b,mp,mc,mv,pr+1,n,_,vP,vC,vR',vF',c.1.2.1,ps,cs,ri,wi,jF c.2,false,rfl,hh5,B5,V5,hn,λt ht=>hwc t (by unfold kC;exact aV.2 (.inl ht)),zO,(λh=>by cases h),λu6 h6 w n6 s6 o6 m6 l6 b6=> ?_⟩
    have o6:lm _ u6 h6 w (c.1.2.1.map (mi cs (jF c.2))):=o6
    obtain⟨wa,wc,rfl,-,-⟩:=o6.sl
    exact hK' u6 h6 wa wc (s6.mono λj _ hj=>by cases hj.1) o6.iZ
   refine vX (λσ' h2=>BR σ σ' [1,2,4,5,8,17,94,95,96]/\σ' 20= .pointer (some ⟨pr,0,none⟩)/\ ∃(u2:U) (wa:Option Addr) (wc:Nat),jD (λj=>j=pr) u5 h5 u2 h2/\jS u2 h2 (.slice wa (c.1.2.1.map (mi cs (jF c.2))).length wc) (c.1.2.1.map (mi cs (jF c.2)))/\
    jR u2 h2 pr [Jx JT (uI ps c.1.1),.slice wa (c.1.2.1.map (mi cs (jF c.2))).length wc,.slice a1 (ry ps cs [] c.2).length c1,.slice a2 (mK cs (jF c.2) c.2).length c2,.slice a3 (om ps cs (jF c.2) c.2).length c3,.slice a4 (jF c.2).length c4,Jx JT i]) ?_ ?_
   ·simp(disch:=first|omega|simp only[zz];try omega;done) only[↓reduceIte,go_sem,vQ,X.e8,e17,e94,e95,e96,w1,w7,Y5.at,Y5.2.1]
    refine⟨oz B5.mP ⟨by simp(disch:=omega) only[↓reduceIte,go_sem,Y5.2.1],?_⟩,jC (Tw (hslots _ λu6 h6 wa wc s6 i6=> ?_))⟩
    ·rw[hpid]
     simp only[mr,aD,aW]
     simp only[↓reduceIte,go_sem,X.e8]
     refine jC (Tw (hslots _ λu6 h6 wa wc s6 i6=>⟨jO,?_⟩))
     have R6:=R5.sZ s6
     have hr6:=R6.1
     simp only[↓reduceIte,go_sem,X.e8,e17,e94,e95,e96,R6.2.1,R6.2.2.1]
     have sw:jD (λj=>j=pr) u6 h6 u6 (jW h6 pr 0 [Jx JT (uI ps c.1.1),.slice wa (c.1.2.1.map (mi cs (jF c.2))).length wc]):=jD.sets u6 h6 _ rfl (by rw[R6.2.2.2.1];exact ak _) (by rw[R6.2.1];simp)
     exact⟨u6,(s6.mono λ_ _ h=>h.elim).trans sw (λ_ _ h=>h),wa,wc,i6.mono sw.ge,(R6.set (i:=0) (v:= Jx JT (uI ps c.1.1)) zP).set (i:=1) (v:= .slice wa (c.1.2.1.map (mi cs (jF c.2))).length wc) zP⟩
    ·have Y6:=Y5.sZ s6
     have hy6:=Y6.1
     have B6:=B5.step s6 (λ_ _ h=>h)
     obtain⟨x1,x2,x3,x4,x5,x6,x7,x8,x9⟩:=B6.open
     refine⟨by simp(disch:=first|omega|simp only[zz];try omega;done) only[↓reduceIte,go_sem,X.e8,w7,x1,x7,Y5.at,Y6.at,Y6.2.1],?_⟩
     simp only[↓reduceIte,go_sem]
     refine oz B6.mP ⟨jO,?_⟩
     rw[hpid]
     simp only[mr,aD,aW]
     have R6:=R5.sZ s6
     have hr6:=R6.1
     simp only[↓reduceIte,go_sem,X.e8,e17,e94,e95,e96,R6.2.1,R6.2.2.1]
     have sw:jD (λj=>j=pr) u6 h6 u6 (jW h6 pr 0 [Jx JT (uI ps c.1.1),.slice wa (c.1.2.1.map (mi cs (jF c.2))).length wc]):=jD.sets u6 h6 _ rfl (by rw[R6.2.2.2.1];exact ak _) (by rw[R6.2.1];simp)
     exact⟨u6,(s6.mono λ_ _ h=>h.elim).trans sw (λ_ _ h=>h),wa,wc,i6.mono sw.ge,(R6.set (i:=0) (v:= Jx JT (uI ps c.1.1)) zP).set (i:=1) (v:= .slice wa (c.1.2.1.map (mi cs (jF c.2))).length wc) zP⟩
   ·rintro σ' h2 ⟨hkE,e20,u2,wa,wc,s2,i2,R2⟩
    simp only[go_sem,X.e1,X.e2,X.e4,X.e5,X.e8,e17,e94,e95,e96]at hkE
    obtain⟨k1,k2,k4,k5,k8,k17,k94,k95,k96⟩:=hkE
    have B2:=B5.step s2 (λj hj e=>hp2 (by have e:j=pr:=e;rw[<-e];exact hj))
    obtain⟨x1,x2,x3,x4,x5,x6,x7,x8,x9⟩:=B2.open
    have hr2:=R2.1
    have M2:=M5.step s2 (λe=>hp1.2.1 (by have e:ms=pr:=e;exact e.symm))
    have X2:=X5.step s2 (λj e=>by have e:j=pr:=e;omega) σ' (by rw[k1,X.e1]) (by rw[k2,X.e2]) (by rw[k4,X.e4]) (by rw[k5,X.e5]) (by rw[k8,X.e8])
    have hkh:=X2.lt.2.2.2.2.2.2.2.2.2.2
    simp(disch:=first|omega|simp only[zz];try omega;done) only[↓reduceIte,go_sem,k8,e20,x1,x5,R2.at,R2.2.1]
    refine kW rfl B2.oR (x:=RY ps cs i c) (cs:=[Jx JT (uI ps c.1.1),.slice wa (c.1.2.1.map (mi cs (jF c.2))).length wc,.slice a1 (ry ps cs [] c.2).length c1,.slice a2 (mK cs (jF c.2) c.2).length c2,.slice a3 (om ps cs (jF c.2) c.2).length c3,.slice a4 (jF c.2).length c4,Jx JT i]) (by
     rw[sK]
     exact⟨_,_,_,_,_,rfl,i2,j1.mono s2.ge,j2.mono s2.ge,j3.mono s2.ge,j4.mono s2.ge⟩) rfl rfl hkh zO λa6 n6 c6 u6 h6 o6 s6 b6=>⟨jO,?_⟩
    obtain⟨B6,st6⟩:=B2.putR o6 s6 b6
    have hb6: ¬jL vR' b:=by
     have D:=B2.dis
     simp only[Eg,bD,aH,cO,or_false,forall_eq_or_imp,forall_eq,List.Pairwise.nil,aC,false_imp_iff,implies_true]at D
     exact D.1.2.2.2.2.1
    have X6:=B2.blk.step s6 hb6
    have y1:lS h6 b=6:=X6.2.1
    have y2:tJ h6 b=(0,0):=X6.2.2.1
    simp(disch:=omega) only[↓reduceIte,go_sem,k8,k96,y1,y2]
    refine⟨i+1,?_,zO⟩
    rw[hI]
    refine⟨by simp [jI,k17],by simp [jI,k94],by simp [jI,k95],zJ,hlt,u6,_,vF',_,wi,X2.step st6 (λj hj=>B2.ge hj) _ zJ zJ zJ zJ zJ,B6,M2.step st6 hms,?_,by simp;omega,zO,heq⟩
    intro hj
    have hml2:=M2.lt
    rcases hj with hj|hj|hj|hj|hj|hj|hj
    ·exact hms (.inl hj)
    ·exact hms (.inr (.inl hj))
    ·exact hms (.inr (.inr (.inl hj)))
    ·exact hms (.inr (.inr (.inr (.inl hj))))
    ·exact hms (.inr (.inr (.inr (.inr (.inl hj)))))
    ·rcases b6 _ hj with hj|hj
     ·exact hms (.inr (.inr (.inr (.inr (.inr (.inl hj))))))
     ·omega
    ·exact hms (.inr (.inr (.inr (.inr (.inr (.inr hj))))))
 ·obtain rfl:i=p.length:=zO
  rw[bB]at heq
  have heq:sV ps cs ([],[]) 0 p=(ri,wi):=heq
  rw[heq]at hb
  simp only[↓reduceIte,go_sem,Vk,e95,e96]
  exact ag8 (X.step (S:=S0) (.refl _ _ _) (λ_ h=>h.elim) _ zJ zJ zJ zJ zJ) (by simp [jI,e17]) hlf B M hms hkm zO hcs zO h8 hfl hb hK
end Go.Proofs.Z
namespace Edict
def ajp(p:List jY)(fs:List kZ)(ps:List kK)(cs:List jK):Gn×BP:=
 ((ps,cs,(sV ps cs ([],[]) 0 p).1,fs.foldl (λl a=>rX l (ou ps cs a)) (sV ps cs ([],[]) 0 p).2),0,0,0)
theorem WS(cs:List jK)(a:kZ)(l:List kZ):yn cs (a::l)=match pG cs a.2.1 with
  |(cs,none)=>yn cs l
  |(cs,some t)=>(cs,some t):=rfl
end Edict
namespace Go.Proofs.Z
open Go Go.Ev Edict
variable {K:Value->H->Prop} {KP:List PanicEntry->H->Prop} {b:Nat} {cs:List jK} {fa:Option Addr} {fc:Nat} {fs:List kZ} {h h0:H} {k:Nat} {la:Option Addr} {lc mc mp:Nat} {p:List jY} {p2 p4 p5:Nat} {ps:List kK} {u u0:U} {vC vF vP vR:Value} {σ:ku}
theorem ad8:Rep.rep u h qH [.slice none 0 0,.slice none 0 0,.slice none 0 0,.slice none 0 0]:=Ej (.nil _ _) (.nil _ _) (.nil _ _) (.nil _ _)
theorem OO{c x o:Int}(X:Ue u0 h0 p fs la fa lc fc p2 p4 p5 b k σ u h)(hb:qi p fs=(qH,c,x,o))(hK:Kb u0 h0 p fs K):
  let h1:=jW h p4 0 [.slice none 0 0,.slice none 0 0,.slice none 0 0,.slice none 0 0]
  let h2:=jW h1 p5 0 [Jx JT c,Jx JT x,Jx JT o]
  p5<h1.size/\lS h1 p5=3/\tJ h1 p5=(0,0)/\lS h2 p4=4/\lS h2 p5=3/\(∀i,i<4->Go.Ev.hv h2 p4 i= .slice none 0 0)/\Go.Ev.hv h2 p5 0= Jx JT c/\Go.Ev.hv h2 p5 1= Jx JT x/\Go.Ev.hv h2 p5 2= Jx JT o/\
   h1.size=h.size/\h2.size=h.size/\ ∀u3 h3,jD S0 u h2 u3 h3->K (.tuple #[.agg #[.slice none 0 0,.slice none 0 0,.slice none 0 0,.slice none 0 0],.agg #[Jx JT c,Jx JT x,Jx JT o]]) h3:=by
 intro h1 h2
 have F:=X.F
 have C:=X.C
 have lt:=X.lt
 have sw1:jD (λj=>j=p4) u h u h1:=jD.sets u h _ rfl (by rw[C.2.2.2.1];exact ak _) (by rw[C.2.1];exact ak _)
 have F1:=F.step sw1 (λe=>lt.2.2.2.2.2.2.2.2.1 (by have e:p5=p4:=e;exact e.symm))
 have C1:=C.sets (l:=[.slice none 0 0,.slice none 0 0,.slice none 0 0,.slice none 0 0]) rfl
 have sw2:jD (λj=>j=p5) u h1 u h2:=jD.sets u _ _ rfl (by rw[F1.2.2.2.1];exact ak _) (by rw[F1.2.1];exact ak _)
 have C2:=C1.step sw2 (λe=>lt.2.2.2.2.2.2.2.2.1 (by have e:p4=p5:=e;exact e))
 have F2:=F1.sets (l:=[Jx JT c,Jx JT x,Jx JT o]) rfl
 have this: ∀u3 h3,jD S0 u h2 u3 h3->K (.tuple #[.agg #[.slice none 0 0,.slice none 0 0,.slice none 0 0,.slice none 0 0],.agg #[Jx JT c,Jx JT x,Jx JT o]]) h3:=λu3 h3 s3=>by
  have:=hK u3 h3 [.slice none 0 0,.slice none 0 0,.slice none 0 0,.slice none 0 0] (((X.st.trans sw1 (λj hj e=>by have e:j=p4:=e;omega)).trans sw2 (λj hj e=>by have e:j=p5:=e;omega)).tZ s3) (by rw[hb];exact ad8)
  rw[hb]at this
  exact this
 refine⟨F1.1,F1.2.1,F1.2.2.1,C2.2.1,F2.2.1,λi hi=> ?_,F2.at 0 zP,F2.at 1 zP,F2.at 2 zP,lI _ _ _ _,(lI _ _ _ _).trans (lI _ _ _ _),this⟩
 have hc:=C2.at i hi
 rw[hc]
 rcases i with _|_|_|_|i
 ·rfl
 ·rfl
 ·rfl
 ·rfl
 ·omega
theorem ajq
  (X:Ue u0 h0 p fs la fa lc fc p2 p4 p5 b k σ u h) (hl:jS u0 h0 (.slice la p.length lc) p) (hlf:jS u0 h0 (.slice fa fs.length fc) fs) (B:wL k u h b mp mc vP vC vR vF ps cs [] [])
  (hps:ps.length<=131072) (hcs:cs.length<=65536) (hpl:p.length<=512) (hpc: ∀c∈p,lw c=0) (hpw: ∀c∈p,∀t∈kC c,Rep.wf (jU t)) (h8: ∀a∈fs,a.2.1.length<=8/\ ∀t∈a.2.1,Rep.wf (jU t)) (hfl:fs.length<=4096)
  (hb:qi p fs=ajp p fs ps cs) (hK:Kb u0 h0 p fs K):wpS ma bT8 (uK qz (pz K KP)) σ h:=by
 rw[ag5]
 simp only[go_sem,bT8,bT7,bT6,bT5,bT4,bT3,Tx,sS,sF,xU]
 refine LJ ksK zu u λu1 h1 s1 m1=>⟨jO,?_⟩
 rw[show(λ_=>none:List Int->Option Int)=nJ (([]:List sj).map BO)from by funext s;simp [nJ]]at m1
 simp only[↓reduceIte,go_sem,jN]
 have hk:=X.lt.2.2.2.2.2.2.2.2.2.2
 exact ajs (X.step s1 (λ_ h=>h.elim) _ zJ zJ zJ zJ zJ) zJ hl hlf (B.step s1 (λ_ _ h=>h)) m1 (λhj=>by have:=B.lt hj;omega) hk hps hcs hpl hpc hpw h8 hfl hb hK
theorem ajr
  (X:Ue u0 h0 p fs la fa lc fc p2 p4 p5 b k σ u h) (hl:jS u0 h0 (.slice la p.length lc) p) (hlf:jS u0 h0 (.slice fa fs.length fc) fs) (B:wL k u h b mp mc vP vC vR vF ps cs [] [])
  (hps:ps.length<=131072) (hcs:cs.length<=65536) (hpl:p.length<=512) (hpc: ∀c∈p,lw c=0) (hpw: ∀c∈p,∀t∈kC c,Rep.wf (jU t)) (h8: ∀a∈fs,a.2.1.length<=8/\ ∀t∈a.2.1,Rep.wf (jU t)) (hfl:fs.length<=4096)
  (hb:qi p fs=match yn cs fs with
   |(_,some t)=>(qH,6,1,t.2.2.2)
   |(cs',none)=>ajp p fs ps cs') (hK:Kb u0 h0 p fs K):wpS ma bT7 (uK qz (pz K KP)) σ h:=by
 rw[ag4]
 simp only[↓reduceIte,go_sem,bT7,bT6,bT5,bT4,bT3,Tx,sS,sF,xU,X.e1]
 obtain⟨I,hI⟩:=kg (α:=Nat->ku->H->Prop) λi σ' h'=>σ' 73= .slice fa fs.length fc/\σ' 74= Jx JT fs.length/\σ' 75= Jx JT i/\i<=fs.length/\
  ∃(u':U) (vi:Value) (ci:List jK),Ue u0 h0 p fs la fa lc fc p2 p4 p5 b k σ' u' h'/\wL k u' h' b mp mc vP vi vR vF ps ci [] []/\ci.length<=65536/\yn cs fs=yn ci (fs.drop i)
 refine jE I (λi=>fs.length - i) 0 (by
  rw[hI]
  exact⟨zJ,zJ,zJ,aj _,u,vC,cs,X.step (S:=S0) (.refl _ _ _) (λ_ h=>h.elim) _ zJ zJ zJ zJ zJ,B,hcs,rfl⟩) ?_
 clear B X hcs
 intro i σ h' hy
 rw[hI]at hy
 obtain⟨e73,e74,e75,hi,u',vi,ci,X,B,hcs,heq⟩:=hy
 by_cases hlt:i<fs.length
 ·obtain⟨x,hs⟩:=qP hlt
  have hdr:fs.drop i=x::fs.drop (i+1):=by
   obtain⟨hi',rfl⟩:=aB.1 hs
   exact aN hi'
  rw[hdr,WS]at heq
  have hx:=h8 x (aF hs)
  obtain⟨pb,po,rfl,hpb,hpu,hpz,hpr⟩:=(hlf.mono X.st.ge).row i x hs
  rw[kE]at hpr
  obtain⟨pv,hpr,hpv⟩:=hpr
  obtain⟨pva,pvc,rfl,r1,r2⟩:=hpv.sl
  simp only[qK,uq,ax,aC]at hpr hpu hpz
  obtain⟨q0,q1,q2⟩:=hpr
  have sp:=jD.qZ S0 u' h' #[str x.1,.slice pva x.2.1.length pvc,Jx JT x.2.2] 51
  have X1:=X.step sp (λ_ h=>h.elim) σ rfl rfl rfl rfl rfl
  simp(disch:=omega) only[↓reduceIte,go_sem,Vj,X.e8,e73,e74,e75,hlt,q0,q1,q2]
  refine jC (ME ⟨k,ub u' h'.size 0,b,mp,mc,_,vP,vi,vR,vF,x.2.1,ps,ci,[],[],rfl,hpv.mono sp.ge,B.step sp (λ_ _ h=>h),hcs,X1.lt.2.2.2.2.2.2.2.2.2.2,hx.2,λu3 h3 vj s3 B3 b3 l3=>⟨jO,?_⟩⟩)
  have X3:=X1.step s3 (λj hj=>B.ge hj) σ rfl rfl rfl rfl rfl
  have sq:=jD.qZ S0 u3 h3 (jM.enc ((pG ci x.2.1).2.getD JP)).toArray 74
  have B4:=B3.step sq (λ_ _ h=>h)
  have X4:=X3.step sq (λ_ h=>h.elim) σ rfl rfl rfl rfl rfl
  generalize hvr:pG ci x.2.1=r at heq B3 B4 l3 sq X4 ⊢
  obtain⟨cj,ot⟩:=r
  cases ot with
  |none=>
   simp only[dR,cZ,jM.enc,JP]at heq sq X4 B4 l3 ⊢
   simp(disch:=omega) only[↓reduceIte,go_sem,e75]
   refine⟨i+1,?_,zO⟩
   rw[hI]
   exact⟨by simp [jI,e73],by simp [jI,e74],zJ,hlt,_,vj,cj,X4.step (S:=S0) (.refl _ _ _) (λ_ h=>h.elim) _ zJ zJ zJ zJ zJ,B4,l3,heq⟩
  |some t=>
   simp only[bZ,dM,jM.enc]at heq sq X4 B4 l3 ⊢
   rw[heq]at hb
   simp only at hb
   have E:=OO X3 hb hK
   have C3:=X3.C
   have F3:=X3.F
   have hc3:=C3.1
   have hf3:=F3.1
   simp(disch:=omega) only[↓reduceIte,go_sem,X.e4,X.e5,C3.2.1,C3.2.2.1]
   generalize hXe:jW h3 p4 0 [.slice none 0 0,.slice none 0 0,.slice none 0 0,.slice none 0 0]=hX at E ⊢
   obtain⟨y1,y2,y3,y4,y5,y6,y7,y8,y9,y10,y11,y12⟩:=E
   have y60:=y6 0 zO
   have y61:=y6 1 zO
   have y62:=y6 2 zO
   have y63:=y6 3 zO
   simp(disch:=omega) only[↓reduceIte,go_sem,X.e4,X.e5,qz,y3,y4,y5,y60,y61,y62,y63,y7,y8,y9]
   exact y12 _ _ (jD.qZ S0 _ _ _ _)
 ·obtain rfl:i=fs.length:=zO
  rw[bB]at heq
  have heq:yn cs fs=(ci,none):=heq
  rw[heq]at hb
  simp only at hb
  simp only[↓reduceIte,go_sem,Vj,e74,e75]
  exact ajq (X.step (S:=S0) (.refl _ _ _) (λ_ h=>h.elim) _ zJ zJ zJ zJ zJ) hl hlf B hps hcs hpl hpc hpw h8 hfl hb hK
end Go.Proofs.Z
