/- A part of the proof. -/
import Derived.Test.YtgjkkjeakagomaaGreatDoorRefS
import Derived.Test.YtgjkkjeakagomaaGreatDoorPrM
import Derived.Test.YtgjkkjeakagomaaGreatDoorCcA
import Derived.Test.YtgjkkjeakagomaaGreatDoorCbV
import Derived.Test.YtgjkkjeakagomaaGreatDoorPrP
set_option linter.all false
set_option maxRecDepth 100000
set_option maxHeartbeats 4000000
open Go.Value renaming int→Jx
open Go.IntKind renaming i64→JT
namespace Go.Proofs.Z
open Go Go.Ev Edict
variable {α:Type} {r:Edict.Flt->List kR->Except Edict.Flt (List α)} {s:List UInt8}
def Va(s:List UInt8):List qg×Edict.Flt:=BU (λb l=>nQ b [] l) s
def Vb(s:List UInt8):List qX×Edict.Flt:=BU (λb l=>mh b [] l) s
def akF(vs:List Value)(h:H)(K:Value->H->Prop):Prop:= ∃(u:U) (s:List UInt8),vs=[str s]/\s.length<=9223372036854775807/\UH u h/\ ∀u' h' w,jD S0 u h u' h'->jS u' h' w (Va s).1->K (.tuple #[.agg #[w],oo (Va s).2]) h'
def akG(vs:List Value)(h:H)(K:Value->H->Prop):Prop:= ∃(u:U) (s:List UInt8),vs=[str s]/\s.length<=9223372036854775807/\UH u h/\ ∀u' h' w,jD S0 u h u' h'->jS u' h' w (Vb s).1->K (.tuple #[w,oo (Vb s).2]) h'
theorem GL{e:Edict.Flt}(h:mg r s= .error e):BU r s=([],e):=by unfold BU;rw[h]
theorem zI{a:List α}(h:mg r s= .ok a):BU r s=(a,(0,0)):=by unfold BU;rw[h]
def ZI:lq:=λf vs h K _=>(f=4/\akF vs h K)\/(f=5/\akG vs h K)\/(f=6/\akF vs h K)\/(f=7/\akG vs h K)
 \/(f=8/\YR vs h K)\/(f=9/\QS vs h K)\/(f=10/\xk Gn vs h K)
theorem NJ:lQ Tryz.prog ZI:=by
 rintro f vs h K KP (⟨rfl,u,s,rfl,hs,hG,hK⟩|⟨rfl,u,s,rfl,hs,hG,hK⟩|⟨rfl,u,s,rfl,hs,hG,hK⟩|⟨rfl,u,s,rfl,hs,hG,hK⟩|⟨rfl,hC⟩|⟨rfl,hC⟩|⟨rfl,hC⟩)
 ·unfold Va at hK
  refine OV ⟨u,s,rfl,hs,hG,λe he u' h' st=> ?_,λa ha u' h' w st o=> ?_⟩
  ·rw[GL he]at hK;exact hK u' h' _ st (lm.nil h.size _ _).iZ
  ·rw[zI ha]at hK;exact hK u' h' _ st o.iZ
 ·unfold Vb at hK
  refine Xh ⟨u,s,rfl,hs,hG,λe he u' h' st=> ?_,λa ha u' h' w st o=> ?_⟩
  ·rw[GL he]at hK;exact hK u' h' _ st (lm.nil h.size _ _).iZ
  ·rw[zI ha]at hK;exact hK u' h' _ st o.iZ
 ·unfold Va at hK
  refine OY ⟨u,s,rfl,hs,λe he u' h' st=> ?_,λa ha u' h' w st o=> ?_⟩
  ·rw[GL he]at hK;exact hK u' h' _ st (lm.nil h.size _ _).iZ
  ·rw[zI ha]at hK;exact hK u' h' _ st o.iZ
 ·unfold Vb at hK
  refine Xj ⟨u,s,rfl,hs,λe he u' h' st=> ?_,λa ha u' h' w st o=> ?_⟩
  ·rw[GL he]at hK;exact hK u' h' _ st (lm.nil h.size _ _).iZ
  ·rw[zI ha]at hK;exact hK u' h' _ st o.iZ
 ·exact WP hC
 ·exact Vv hC
 ·exact WU hC
theorem af5(u:U)(h:H)(l:List Value)(T:TypeId): ∃h' u',h'=h.push (.cells l.toArray T)/\jD S0 u h u' h'/\jR u' h' h.size l:=⟨_,_,rfl,jD.qZ S0 u h _ T,jR.newc l T⟩
theorem af6(u:U)(h:H)(l m:List Value)(T T':TypeId): ∃h' u',h'=(h.push (.cells l.toArray T)).push (.cells m.toArray T')/\jD S0 u h u' h'/\jR u' h' h.size l/\jR u' h' (h.size+1) m:=by
 obtain⟨h1,u1,e1,s1,B1⟩:=af5 u h l T
 obtain⟨h2,u2,e2,s2,B2⟩:=af5 u1 h1 m T'
 exact⟨h2,u2,by rw[e2,e1],s1.tZ s2,B1.sZ s2,by rw[e1]at B2;simpa using B2⟩
theorem Vd{u:U}{h:H}{t:List UInt8}(hs:s.length<=9223372036854775807)(ht:t.length<=9223372036854775807)(hG:UH u h)(hP:Ac u h):
  kN Tryz.prog 3 [str s,str t] h (λv h'=>v= .bool true/\abG h h') λ_ _=>False:=by
 refine jJ 1157425104234348531 [(none,(.t 4))] NJ Tryz.func3 ?_
 have hwp:Rep.wf (Va s).1:=af9 s
 have hwq:Rep.wf (Vb t).1:=acR t
 obtain⟨p,hp⟩:=kg ((Va s).1)
 obtain⟨f,hf⟩:=kg ((Va s).2)
 obtain⟨q,hq⟩:=kg ((Vb t).1)
 obtain⟨g,hg⟩:=kg ((Vb t).2)
 rw[<-hp]at hwp
 rw[<-hq]at hwq
 simp only[↓reduceIte,go_sem]
 refine jC (.inl ⟨rfl,u,s,rfl,hs,hG,λu1 h1 w1 s1 i1=>⟨jO,?_⟩⟩)
 rw[<-hp]at i1
 rw[<-hf]
 obtain⟨a1,c1,rfl,-,-⟩:=i1.sl
 obtain⟨h2,u2,hh2,s2,P2,F2⟩:=af6 u1 h1 [.slice a1 p.length c1] [Jx JT f.1,Jx JT 0,Jx JT f.2] 24 27
 simp(disch:=first|omega|simp only[zz];try omega;done) only[↓reduceIte,go_sem,oo,<-hh2]
 have st2:=s1.tZ s2
 refine jC (.inr (.inl ⟨rfl,u2,t,rfl,ht,hG.mono st2.ge,λu3 h3 w3 s3 i3=>⟨jO,?_⟩⟩))
 rw[<-hq]at i3
 rw[<-hg]
 obtain⟨a3,c3,rfl,-,-⟩:=i3.sl
 obtain⟨h4,u4,hh4,s4,G4⟩:=af5 u3 h3 [Jx JT g.1,Jx JT 0,Jx JT g.2] 27
 simp(disch:=omega) only[↓reduceIte,go_sem,oo,<-hh4]
 have st4:=(st2.tZ s3).tZ s4
 refine jC (.inr (.inr (.inl ⟨rfl,u4,s,rfl,hs,hG.mono st4.ge,λu5 h5 w5 s5 i5=>⟨jO,?_⟩⟩)))
 rw[<-hp]at i5
 rw[<-hf]
 obtain⟨a5,c5,rfl,-,-⟩:=i5.sl
 obtain⟨h6,u6,hh6,s6,P6,F6⟩:=af6 u5 h5 [.slice a5 p.length c5] [Jx JT f.1,Jx JT 0,Jx JT f.2] 24 27
 simp(disch:=first|omega|simp only[zz];try omega;done) only[↓reduceIte,go_sem,oo,<-hh6]
 have st6:=(st4.tZ s5).tZ s6
 refine jC (.inr (.inr (.inr (.inl ⟨rfl,u6,t,rfl,ht,hG.mono st6.ge,λu7 h7 w7 s7 i7=>⟨jO,?_⟩⟩))))
 rw[<-hq]at i7
 rw[<-hg]
 obtain⟨a7,c7,rfl,-,-⟩:=i7.sl
 obtain⟨h8,u8,hh8,s8,G8⟩:=af5 u7 h7 [Jx JT g.1,Jx JT 0,Jx JT g.2] 27
 have s78:=s7.tZ s8
 have s58:=(s5.tZ s6).tZ s78
 have s38:=(s3.tZ s4).tZ s58
 have st8:=st6.tZ s78
 have P8:=P2.sZ s38
 have F8:=F2.sZ s38
 have G8':=G4.sZ s58
 have Q8:=P6.sZ s78
 have E8:=F6.sZ s78
 have P81:=P8.1
 have F81:=F8.1
 have G81:=G8'.1
 have Q81:=Q8.1
 have E81:=E8.1
 have G81':=G8.1
 clear P2 F2 G4 P6 F6
 by_cases hf0:f.1=0
 case neg=>
  simp(disch:=first|omega|simp only[zz];try omega;done) only[↓reduceIte,go_sem,oo,<-hh8,P8.at,P8.2.1,F8.at,F8.2.1,G8'.at,G8'.2.1,Q8.at,Q8.2.1,E8.at,E8.2.1,G8.at,G8.2.1,ae hf0]
  exact st8.ext
 by_cases hg0:g.1=0
 case neg=>
  simp(disch:=first|omega|simp only[zz];try omega;done) only[↓reduceIte,go_sem,oo,<-hh8,P8.at,P8.2.1,F8.at,F8.2.1,G8'.at,G8'.2.1,Q8.at,Q8.2.1,E8.at,E8.2.1,G8.at,G8.2.1,ai hf0,ae hg0]
  exact st8.ext
 simp(disch:=first|omega|simp only[zz];try omega;done) only[↓reduceIte,go_sem,oo,<-hh8,P8.at,P8.2.1,F8.at,F8.2.1,G8'.at,G8'.2.1,Q8.at,Q8.2.1,E8.at,E8.2.1,G8.at,G8.2.1,ai hf0,ai hg0]
 refine jC (.inr (.inr (.inr (.inr (.inl ⟨rfl,u8,_,_,p,q,rfl,(i1.mono s2.ge).mono s38.ge,(i3.mono s4.ge).mono s58.ge,hwp,hwq,hP.mono st8.ge,λu9 h9 l9 s9 hr9=>⟨jO,?_⟩⟩)))))
 obtain⟨B,hB⟩:=kg (qi p q)
 rw[<-hB]at hr9 ⊢
 have hr9s:=hr9
 rw[BJ]at hr9
 obtain⟨v0,v1,v2,v3,rfl,k0,k1,k2,k3⟩:=hr9
 obtain⟨x0,y0,rfl,-,-⟩:=k0.sl
 obtain⟨x1,y1,rfl,-,-⟩:=k1.sl
 obtain⟨x2,y2,rfl,-,-⟩:=k2.sl
 obtain⟨x3,y3,rfl,-,-⟩:=k3.sl
 obtain⟨h10,u10,hh10,s10,C10,D10⟩:=af6 u9 h9 [.slice x0 B.1.1.length y0,.slice x1 B.1.2.1.length y1,.slice x2 B.1.2.2.1.length y2,.slice x3 B.1.2.2.2.length y3] [Jx JT B.2.1,Jx JT B.2.2.1,Jx JT B.2.2.2] 38 27
 have s90:=s9.tZ s10
 have Q9:=Q8.sZ s90
 have Q91:=Q9.1
 have st9:=st8.tZ s90
 simp(disch:=first|omega|simp only[zz];try omega;done) only[↓reduceIte,go_sem,fV,<-hh10,Q9.at,Q9.2.1]
 refine jC (.inr (.inr (.inr (.inr (.inr (.inl ⟨rfl,u10,_,_,p,q,rfl,(i5.mono s6.ge).mono (s78.tZ s90).ge,(i7.mono s8.ge).mono s90.ge,hwp,hwq,λu11 h11 l11 s11 hr11=>⟨jO,?_⟩⟩))))))
 rw[<-hB]at hr11 ⊢
 have hr11s:=hr11
 rw[BJ]at hr11
 obtain⟨w0,w1,w2,w3,rfl,j0,j1,j2,j3⟩:=hr11
 obtain⟨z0,b0,rfl,-,-⟩:=j0.sl
 obtain⟨z1,b1,rfl,-,-⟩:=j1.sl
 obtain⟨z2,b2,rfl,-,-⟩:=j2.sl
 obtain⟨z3,b3,rfl,-,-⟩:=j3.sl
 obtain⟨h12,u12,hh12,s12,C12,D12⟩:=af6 u11 h11 [.slice z0 B.1.1.length b0,.slice z1 B.1.2.1.length b1,.slice z2 B.1.2.2.1.length b2,.slice z3 B.1.2.2.2.length b3] [Jx JT B.2.1,Jx JT B.2.2.1,Jx JT B.2.2.2] 38 27
 have s112:=s11.tZ s12
 have A12:=C10.sZ s112
 have B12:=D10.sZ s112
 have A121:=A12.1
 have B121:=B12.1
 have C121:=C12.1
 have D121:=D12.1
 have st12:=st9.tZ s112
 simp(disch:=first|omega|simp only[zz];try omega;done) only[↓reduceIte,go_sem,fV,<-hh12,A12.at,A12.2.1,B12.at,B12.2.1,C12.at,C12.2.1,D12.at,D12.2.1]
 refine jC (.inr (.inr (.inr (.inr (.inr (.inr ⟨rfl,_,B.1,[.slice x0 B.1.1.length y0,.slice x1 B.1.2.1.length y1,.slice x2 B.1.2.2.1.length y2,.slice x3 B.1.2.2.2.length y3],[.slice z0 B.1.1.length b0,.slice z1 B.1.2.1.length b1,.slice z2 B.1.2.2.1.length b2,.slice z3 B.1.2.2.2.length b3],rfl,Rep.mono (s10.tZ s112).ge hr9s,Rep.mono s12.ge hr11s,λu13 h13 s13=>⟨jO,?_⟩⟩))))))
 simp only[↓reduceIte,go_sem,jN]
 exact(st12.tZ s13).ext
end Go.Proofs.Z
