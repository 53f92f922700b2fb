/- A part of the proof. -/
import Derived.Test.YtbnkepecoeohjaaGreatDoorTdF
import Derived.Test.YtbnkepecoeohjaaGreatDoorTq6
set_option linter.all false
set_option maxRecDepth 100000
set_option maxHeartbeats 4000000
namespace Go.Proofs.Z
open Go Go.Ev Edict
theorem IA{u uX:U}{h hX:H}{rb qb:Nat}(st:kG S0 u h uX hX){r0 q0:List Value}(R:kV uX hX rb r0)(Q:kV uX hX qb q0)(hr:h.size<=rb)(hq:h.size<=qb)(hne:rb≠qb)(l m:List Value)(hl:l.length=r0.length)(hm:m.length=q0.length):
  ∃h1 h2,h1=kU hX rb 0 l/\h2=kU h1 qb 0 m/\kV uX h1 qb q0/\kV uX h2 rb l/\kV uX h2 qb m/\kG S0 u h uX h2/\kG (λb=>b=rb) uX hX uX h1/\kG (λb=>b=qb) uX h1 uX h2:=by
 have s1:=kG.sets (S:=λb=>b=rb) uX hX (b:=rb) (o:=0) l rfl (by rw[R.2.2.2.1];exact az _) (by rw[R.2.1,hl];omega)
 have Q1:=Q.step s1 (λe=>hne e.symm)
 have R1:=R.sets (l:=l) hl
 have s2:=kG.sets (S:=λb=>b=qb) uX (kU hX rb 0 l) (b:=qb) (o:=0) m rfl (by rw[Q1.2.2.2.1];exact az _) (by rw[Q1.2.1,hm];omega)
 exact⟨_,_,rfl,rfl,Q1,R1.step s2 hne,Q1.sets hm,(st.own s1 λb q=>by rw[q];exact hr).own s2 λb q=>by rw[q];exact hq,s1,s2⟩
def z5:List Value:=[.slice none 0 0,.slice none 0 0,.slice none 0 0,.slice none 0 0,.slice none 0 0]
def z3:List Value:=[.int .i64 0,.int .i64 0,.int .i64 0]
def WO(vs:List Value)(h:H)(K:Value->H->Prop):Prop:= ∃(u:U) (s t:List UInt8),vs=[str s,str t]/\Kg u h/\EW u h/\s.length<=9223372036854775807/\t.length<=9223372036854775807/\
 (∀(c x o:Int) (u':U) (h':H),c≠0->kG S0 u h u' h'->K (.tuple #[.agg #[.slice none 0 0,.slice none 0 0,.slice none 0 0,.slice none 0 0,.slice none 0 0],.agg #[.int .i64 c,.int .i64 x,.int .i64 o],.bool true]) h')/\
 ∀(x o:Int) u' h' p r f pv lv c P cs,kG S0 u h u' h'->p.length<=512->(∀c∈p,mH c)->(∀c∈p,uz c)->WOk p u' h' r f pv lv c P cs->K (.tuple #[.agg #[r,f,pv,lv,c],.agg #[.int .i64 0,.int .i64 x,.int .i64 o],.bool true]) h'
def YI:mG:=λf vs h K _=>(f=19/\EL vs h K)\/(f=20/\Ls vs h K)\/(f=21/\Lm vs h K)\/(f=22/\Lj vs h K)\/(f=23/\Li vs h K)\/(f=24/\Le vs h K)
theorem NC:nz Tryz.prog YI:=mK IR (mK NR (mK NN (mK NL (mK NI (qd ND)))))
theorem UN{vs:List Value}{h:H}{K:Value->H->Prop}{KP:List PanicEntry->H->Prop}(hC:WO vs h K):ma Tryz.prog 5 vs h K KP:=by
 obtain⟨u,s,t,rfl,hL,hT,hs,ht,hbad,hgood⟩:=hC
 refine kP 1218639156286524510195 [((some (.c1 (.ldn 5) (.t 4))),(.o1 (.ldn 5) (.t 4))),((some (.c1 (.ldn 3) (.t 5))),(.o1 (.ldn 3) (.t 5))),(none,(.t 6))] NC Tryz.func5 (by kernel_rfl) (by apply c0 rfl;repeat' first|apply cS|apply cK|apply cL|apply cX|(apply cC (by decide))|(conv=>lhs;cbv;try simp only[mF])) ?_
 obtain⟨h1,u1,hh1,zh1,p1,R1⟩:=kL u h z5 42
 obtain⟨h2,u2,hh2,zh2,p2,Q2⟩:=kL u1 h1 z3 44
 simp only[z5,z3]at hh1 hh2 R1 Q2
 obtain⟨rb,hrb⟩:=kJ h.size
 obtain⟨qb,hqb⟩:=kJ h1.size
 rw[<-hrb]at R1
 rw[<-hqb]at Q2
 have R2:=R1.sZ p2
 have R21:=R2.1
 have Q21:=Q2.1
 have st2:=p1.tZ p2
 have hr0:h.size<=rb:=by omega
 have hq0:h.size<=qb:=by omega
 have hne:rb≠qb:=by omega
 -- a fault is told
 have out:=fun(uX:U) (hX:H) (st:kG S0 u h uX hX) (R:kV uX hX rb [.slice none 0 0,.slice none 0 0,.slice none 0 0,.slice none 0 0,.slice none 0 0]) (Q:kV uX hX qb [.int .i64 0,.int .i64 0,.int .i64 0]) (c x o:Int)=>
  IA st R Q hr0 hq0 hne [.slice none 0 0,.slice none 0 0,.slice none 0 0,.slice none 0 0,.slice none 0 0] [.int .i64 c,.int .i64 x,.int .i64 o] rfl rfl
 by_cases hs6:65536<s.length
 ·obtain⟨h8,h9,hh8,hh9,Q8,R9,Q9,st9,-⟩:=out u2 h2 st2 R2 Q2 1 0 0
  have hK:=hbad 1 0 0 u2 h9 (by omega) st9
  have R91:=R9.1
  have Q91:=Q9.1
  have Q81:=Q8.1
  simp(disch:=first|omega|simp only[zz];try omega;done) only[↓reduceIte,go_sem,<-hh1,<-hrb,<-hh2,<-hqb,af (show(65536:Int)<s.length by omega),R2.2.1,R2.2.2.1,<-hh8,Q8.2.1,Q8.2.2.1,<-hh9,R9.at,R9.2.1,Q9.at,Q9.2.1]
  exact hK
 by_cases ht6:65536<t.length
 ·obtain⟨h8,h9,hh8,hh9,Q8,R9,Q9,st9,-⟩:=out u2 h2 st2 R2 Q2 1 1 0
  have hK:=hbad 1 1 0 u2 h9 (by omega) st9
  have R91:=R9.1
  have Q91:=Q9.1
  have Q81:=Q8.1
  simp(disch:=first|omega|simp only[zz];try omega;done) only[↓reduceIte,go_sem,<-hh1,<-hrb,<-hh2,<-hqb,au (show¬(65536:Int)<s.length by omega),af (show(65536:Int)<t.length by omega),R2.2.1,R2.2.2.1,<-hh8,Q8.2.1,Q8.2.2.1,<-hh9,R9.at,R9.2.1,Q9.at,Q9.2.1]
  exact hK
 simp(disch:=first|omega|simp only[zz];try omega;done) only[↓reduceIte,go_sem,<-hh1,<-hrb,<-hh2,<-hqb,au (show¬(65536:Int)<s.length by omega),au (show¬(65536:Int)<t.length by omega)]
 refine kD (.inl ⟨rfl,u2,s,rfl,by omega,hL.mono st2.ge,hT.mono st2.ge,λe p _ hres (u3:U) (h3:H) w s3 i3=>⟨kY,?_⟩⟩)
 have R3:=R2.sZ s3
 have Q3:=Q2.sZ s3
 have st3:=st2.tZ s3
 obtain⟨wa,wc,rfl,-,-⟩:=i3.sl
 obtain⟨e1,e2⟩:=e
 simp only at hres
 obtain⟨h4,u4,hh4,zh4,p4,P4⟩:=kL u3 h3 [.slice none 0 0] 87
 obtain⟨h5,u5,hh5,zh5,p5,F5⟩:=kL u4 h4 [.int .i64 0,.int .i64 0,.int .i64 0] 44
 obtain⟨pb,hpb⟩:=kJ h3.size
 obtain⟨fb,hfb⟩:=kJ h4.size
 rw[<-hpb]at P4
 rw[<-hfb]at F5
 have P5:=P4.sZ p5
 have P51:=P5.1
 have F51:=F5.1
 have s6:=kG.set (S:=λb=>b=pb) u5 h5 (b:=pb) (o:=0) (.slice wa p.length wc) rfl (by rw[P5.2.2.2.1];exact az _)
 have P6:=P5.set (i:=0) (v:= .slice wa p.length wc) (by simp)
 obtain⟨h6,hh6⟩:=kJ (lh h5 pb 0 (.slice wa p.length wc))
 rw[<-hh6]at s6 P6
 simp only[bP]at P6
 have F6:=F5.step s6 (λq=>by omega)
 have s7:=kG.sets (S:=λb=>b=fb) u5 h6 (b:=fb) (o:=0) [.int .i64 e1,.int .i64 0,.int .i64 e2] rfl (by rw[F6.2.2.2.1];exact az _) (by rw[F6.2.1];exact aH _)
 have F7:=F6.sets (l:=[.int .i64 e1,.int .i64 0,.int .i64 e2]) rfl
 obtain⟨h7,hh7⟩:=kJ (kU h6 fb 0 [.int .i64 e1,.int .i64 0,.int .i64 e2])
 rw[<-hh7]at s7 F7
 have P7:=P6.step s7 (λq=>by omega)
 have p35:=p4.tZ p5
 have s37:kG S0 u3 h3 u5 h7:=(p35.own s6 λb q=>by rw[q];omega).own s7 λb q=>by rw[q];omega
 have R7:=R3.sZ s37
 have Q7:=Q3.sZ s37
 have st7:=st3.tZ s37
 have i7:=i3.mono s37.ge
 have R71:=R7.1
 have Q71:=Q7.1
 have P71:=P7.1
 have F71:=F7.1
 have F61:=F6.1
 have hrp:rb≠pb:=by have:=R3.1;omega
 have hrf:rb≠fb:=by have:=R3.1;omega
 have hqp:qb≠pb:=by have:=Q3.1;omega
 have hqf:qb≠fb:=by have:=Q3.1;omega
 have hpb0:h.size<=pb:=by have:=st3.ge.sz;omega
 have hfb0:h.size<=fb:=by omega
 by_cases he1:e1=0
 case neg=>
  obtain⟨h8,h9,hh8,hh9,Q8,R9,Q9,st9,sr,-⟩:=out u5 h7 st7 R7 Q7 e1 0 e2
  have hK:=hbad e1 0 e2 u5 h9 he1 st9
  have F8:=F7.step sr (λq=>hrf q.symm)
  have F81:=F8.1
  have R91:=R9.1
  have Q91:=Q9.1
  have Q81:=Q8.1
  simp(disch:=first|omega|simp only[zz];try omega;done) only[↓reduceIte,go_sem,<-hh4,<-hpb,<-hh5,<-hfb,P5.2.1,P5.2.2.1,<-hh6,F6.2.1,F6.2.2.1,<-hh7,F7.at,F7.2.1,au he1,R7.2.1,R7.2.2.1,<-hh8,F8.at,F8.2.1,Q8.2.1,Q8.2.2.1,<-hh9,R9.at,R9.2.1,Q9.at,Q9.2.1]
  exact hK
 rcases hres with hres|⟨hres,hp,hfine⟩
 ·exact absurd he1 hres
 simp(disch:=first|omega|simp only[zz];try omega;done) only[↓reduceIte,go_sem,<-hh4,<-hpb,<-hh5,<-hfb,P5.2.1,P5.2.2.1,<-hh6,F6.2.1,F6.2.2.1,<-hh7,F7.at,F7.2.1,af he1]
 refine kD (.inr (.inl ⟨rfl,u5,t,rfl,by omega,hL.mono st7.ge,hT.mono st7.ge,λe fs _ hres2 (u10:U) (h10:H) w2 s10 i10=>⟨kY,?_⟩⟩))
 have st10:=st7.tZ s10
 have R10:=R7.sZ s10
 have Q10:=Q7.sZ s10
 have P10:=P7.sZ s10
 have F10:=F7.sZ s10
 obtain⟨xa,xc,rfl,-,-⟩:=i10.sl
 obtain⟨e3,e4⟩:=e
 simp only at hres2
 have F101:=F10.1
 -- a fault is laid into its block
 have lay: ∀(uX:U) (hX:H) (l0 l1 l2:Value) (x y z:Value),kG S0 u h uX hX->kV uX hX rb [.slice none 0 0,.slice none 0 0,.slice none 0 0,.slice none 0 0,.slice none 0 0]->kV uX hX qb [.int .i64 0,.int .i64 0,.int .i64 0]->kV uX hX pb [.slice wa p.length wc]->kV uX hX fb [l0,l1,l2]->
   ∃hY,hY=kU hX fb 0 [x,y,z]/\kG S0 u h uX hY/\kV uX hY rb [.slice none 0 0,.slice none 0 0,.slice none 0 0,.slice none 0 0,.slice none 0 0]/\kV uX hY qb [.int .i64 0,.int .i64 0,.int .i64 0]/\kV uX hY pb [.slice wa p.length wc]/\kV uX hY fb [x,y,z]/\Ge uX hX uX hY/\fb<hY.size/\rb<hY.size/\qb<hY.size/\pb<hY.size:=λuX hX l0 l1 l2 x y z st R Q P F=>by
  have s:=kG.sets (S:=λb=>b=fb) uX hX (b:=fb) (o:=0) [x,y,z] rfl (by rw[F.2.2.2.1];exact az _) (by rw[F.2.1];exact aH _)
  have F':=F.sets (l:=[x,y,z]) rfl
  have R':=R.step s hrf
  have Q':=Q.step s hqf
  have P':=P.step s (λq=>by omega)
  exact⟨_,rfl,st.own s λb q=>by rw[q];exact hfb0,R',Q',P',F',s.ge,F'.1,R'.1,Q'.1,P'.1⟩
 obtain⟨h11,hh11,st11,R11,Q11,P11,F11,g11,F111,R111,Q111,P111⟩:=lay u10 h10 _ _ _ (.int .i64 e3) (.int .i64 0) (.int .i64 e4) st10 R10 Q10 P10 F10
 -- the ends with a fault
 have badK: ∀(uX:U) (hX:H) (c x o:Int),c≠0->kG S0 u h uX hX->kV uX hX rb [.slice none 0 0,.slice none 0 0,.slice none 0 0,.slice none 0 0,.slice none 0 0]->kV uX hX qb [.int .i64 0,.int .i64 0,.int .i64 0]->kV uX hX fb [.int .i64 c,.int .i64 x,.int .i64 o]->
   ∃h8 h9,h8=kU hX rb 0 [.slice none 0 0,.slice none 0 0,.slice none 0 0,.slice none 0 0,.slice none 0 0]/\h9=kU h8 qb 0 [.int .i64 c,.int .i64 x,.int .i64 o]/\kV uX h8 qb [.int .i64 0,.int .i64 0,.int .i64 0]/\kV uX h9 rb [.slice none 0 0,.slice none 0 0,.slice none 0 0,.slice none 0 0,.slice none 0 0]/\kV uX h9 qb [.int .i64 c,.int .i64 x,.int .i64 o]/\kV uX h8 fb [.int .i64 c,.int .i64 x,.int .i64 o]/\fb<h8.size/\rb<h9.size/\qb<h9.size/\qb<h8.size/\K (.tuple #[.agg #[.slice none 0 0,.slice none 0 0,.slice none 0 0,.slice none 0 0,.slice none 0 0],.agg #[.int .i64 c,.int .i64 x,.int .i64 o],.bool true]) h9:=λuX hX c x o hc st R Q F=>by
  obtain⟨h8,h9,hh8,hh9,Q8,R9,Q9,st9,sr,-⟩:=out uX hX st R Q c x o
  have hK:=hbad c x o uX h9 hc st9
  have F8:=F.step sr (λq=>hrf q.symm)
  exact⟨h8,h9,hh8,hh9,Q8,R9,Q9,F8,F8.1,R9.1,Q9.1,Q8.1,hK⟩
 by_cases he3:e3=0
 case neg=>
  have s12:=kG.set (S:=λb=>b=fb) u10 h11 (b:=fb) (o:=1) (.int .i64 1) rfl (by rw[F11.2.2.2.1];exact az _)
  have F12:=F11.set (i:=1) (v:= .int .i64 1) (by simp)
  obtain⟨h12,hh12⟩:=kJ (lh h11 fb 1 (.int .i64 1))
  rw[<-hh12]at s12 F12
  simp only[bP,cZ]at F12
  have R12:=R11.step s12 hrf
  have Q12:=Q11.step s12 hqf
  have F121:=F12.1
  obtain⟨h8,h9,hh8,hh9,Q8,R9,Q9,F8,F81,R91,Q91,Q81,hK⟩:=badK u10 h12 e3 1 e4 he3 (st11.own s12 λb q=>by rw[q];exact hfb0) R12 Q12 F12
  simp(disch:=first|omega|simp only[zz];try omega;done) only[↓reduceIte,go_sem,F10.2.1,F10.2.2.1,<-hh11,F11.at,F11.2.1,au he3,F11.2.2.1,<-hh12,F12.at,F12.2.1,R12.2.1,R12.2.2.1,<-hh8,F8.at,F8.2.1,Q8.2.1,Q8.2.2.1,<-hh9,R9.at,R9.2.1,Q9.at,Q9.2.1]
  exact hK
 rcases hres2 with hres2|⟨hres2,hfs,hfs8⟩
 ·exact absurd he3 hres2
 have h16: ∀c∈p,c.2.length<=16:=λc hc=>(hfine c hc).2.1
 have g1:=i7.mono (s10.ge.trans g11)
 have gf:=i10.mono g11
 simp(disch:=first|omega|simp only[zz];try omega;done) only[↓reduceIte,go_sem,F10.2.1,F10.2.2.1,<-hh11,F11.at,F11.2.1,af he3,P11.at,P11.2.1]
 refine kD (.inr (.inr (.inl ⟨rfl,u10,p,fs,_,_,rfl,g1,gf,hp,h16,hfs,λc1 t1 o1 (u13:U) (h13:H) s13=>⟨kY,?_⟩⟩)))
 have st13:=st11.tZ s13
 have R13:=R11.sZ s13
 have Q13:=Q11.sZ s13
 have P13:=P11.sZ s13
 have F13:=F11.sZ s13
 have F131:=F13.1
 obtain⟨h14,hh14,st14,R14,Q14,P14,F14,g14,F141,R141,Q141,P141⟩:=lay u13 h13 _ _ _ (.int .i64 c1) (.int .i64 t1) (.int .i64 o1) st13 R13 Q13 P13 F13
 by_cases hc1:c1=0
 case neg=>
  obtain⟨h8,h9,hh8,hh9,Q8,R9,Q9,F8,F81,R91,Q91,Q81,hK⟩:=badK u13 h14 c1 t1 o1 hc1 st14 R14 Q14 F14
  simp(disch:=first|omega|simp only[zz];try omega;done) only[↓reduceIte,go_sem,F13.2.1,F13.2.2.1,<-hh14,F14.at,F14.2.1,au hc1,R14.2.1,R14.2.2.1,<-hh8,F8.at,F8.2.1,Q8.2.1,Q8.2.2.1,<-hh9,R9.at,R9.2.1,Q9.at,Q9.2.1]
  exact hK
 have g2:=g1.mono (s13.ge.trans g14)
 have gf2:=gf.mono (s13.ge.trans g14)
 simp(disch:=first|omega|simp only[zz];try omega;done) only[↓reduceIte,go_sem,F13.2.1,F13.2.2.1,<-hh14,F14.at,F14.2.1,af hc1,P14.at,P14.2.1]
 refine kD (.inr (.inr (.inr (.inl ⟨rfl,u13,p,_,rfl,g2,hp,hfine,λc2 t2 o2 (u15:U) (h15:H) hb2 s15=>⟨kY,?_⟩⟩))))
 have st15:=st14.tZ s15
 have R15:=R14.sZ s15
 have Q15:=Q14.sZ s15
 have P15:=P14.sZ s15
 have F15:=F14.sZ s15
 have F151:=F15.1
 obtain⟨h16',hh16,st16,R16,Q16,P16,F16,g16,F161,R161,Q161,P161⟩:=lay u15 h15 _ _ _ (.int .i64 c2) (.int .i64 t2) (.int .i64 o2) st15 R15 Q15 P15 F15
 by_cases hc2:c2=0
 case neg=>
  obtain⟨h8,h9,hh8,hh9,Q8,R9,Q9,F8,F81,R91,Q91,Q81,hK⟩:=badK u15 h16' c2 t2 o2 hc2 st16 R16 Q16 F16
  simp(disch:=first|omega|simp only[zz];try omega;done) only[↓reduceIte,go_sem,F15.2.1,F15.2.2.1,<-hh16,F16.at,F16.2.1,au hc2,R16.2.1,R16.2.2.1,<-hh8,F8.at,F8.2.1,Q8.2.1,Q8.2.2.1,<-hh9,R9.at,R9.2.1,Q9.at,Q9.2.1]
  exact hK
 have hbind:=hb2 hc2
 have g3:=g2.mono (s15.ge.trans g16)
 have gf3:=gf2.mono (s15.ge.trans g16)
 simp(disch:=first|omega|simp only[zz];try omega;done) only[↓reduceIte,go_sem,F15.2.1,F15.2.2.1,<-hh16,F16.at,F16.2.1,af hc2,P16.at,P16.2.1]
 refine kD (.inr (.inr (.inr (.inr (.inl ⟨rfl,u15,p,_,rfl,g3,hp,h16,λc3 t3 o3 (u17:U) (h17:H) hb3 s17=>⟨kY,?_⟩⟩)))))
 have st17:=st16.tZ s17
 have R17:=R16.sZ s17
 have Q17:=Q16.sZ s17
 have P17:=P16.sZ s17
 have F17:=F16.sZ s17
 have F171:=F17.1
 obtain⟨h18,hh18,st18,R18,Q18,P18,F18,g18,F181,R181,Q181,P181⟩:=lay u17 h17 _ _ _ (.int .i64 c3) (.int .i64 t3) (.int .i64 o3) st17 R17 Q17 P17 F17
 by_cases hc3:c3=0
 case neg=>
  obtain⟨h8,h9,hh8,hh9,Q8,R9,Q9,F8,F81,R91,Q91,Q81,hK⟩:=badK u17 h18 c3 t3 o3 hc3 st18 R18 Q18 F18
  simp(disch:=first|omega|simp only[zz];try omega;done) only[↓reduceIte,go_sem,F17.2.1,F17.2.2.1,<-hh18,F18.at,F18.2.1,au hc3,R18.2.1,R18.2.2.1,<-hh8,F8.at,F8.2.1,Q8.2.1,Q8.2.2.1,<-hh9,R9.at,R9.2.1,Q9.at,Q9.2.1]
  exact hK
 have hcirc:=hb3 hc3
 have g4:=g3.mono (s17.ge.trans g18)
 have gf4:=gf3.mono (s17.ge.trans g18)
 simp(disch:=first|omega|simp only[zz];try omega;done) only[↓reduceIte,go_sem,F17.2.1,F17.2.2.1,<-hh18,F18.at,F18.2.1,af hc3,P18.at,P18.2.1]
 refine kD (.inr (.inr (.inr (.inr (.inr ⟨rfl,u17,p,fs,_,_,rfl,g4,gf4,hp,hfine,hbind,hcirc,hfs,hfs8,fun(u19:U) (h19:H) r f pv lv c P cs s19 ok=>⟨kY,?_⟩⟩)))))
 obtain⟨F,jf⟩:=ok.jf
 obtain⟨L,jl,hL⟩:=ok.il
 have jr:=ok.ir
 have jp:=ok.ip
 have jc:=ok.ic
 obtain⟨ra,rc,rfl,-,-⟩:=jr.sl
 obtain⟨fa,fc,rfl,-,-⟩:=jf.sl
 obtain⟨pa,pc,rfl,-,-⟩:=jp.sl
 obtain⟨la,lc,rfl,-,-⟩:=jl.sl
 obtain⟨ca,cc,rfl,-,-⟩:=jc.sl
 have st19:=st18.tZ s19
 obtain⟨h20',h20,u20,hh20',hh20,W20',W20,s20,hz20⟩:=kZ u19 h19 [.slice none 0 0,.slice none 0 0,.slice none 0 0,.slice none 0 0,.slice none 0 0] [.slice ra (qy p).length rc,.slice fa F.length fc,.slice pa P.length pc,.slice la L.length lc,.slice ca cs.length cc] 42 rfl
 obtain⟨wb,hwb⟩:=kJ h19.size
 rw[<-hwb]at W20' W20 hh20
 have st20:=st19.tZ s20
 have R20:=(R18.sZ s19).sZ s20
 have Q20:=(Q18.sZ s19).sZ s20
 have F20:=(F18.sZ s19).sZ s20
 have W20'1:=W20'.1
 have W201:=W20.1
 have F201:=F20.1
 have hwr:wb≠rb:=by have:=(R18.sZ s19).1;omega
 have hwq:wb≠qb:=by have:=(Q18.sZ s19).1;omega
 obtain⟨h21,h22,hh21,hh22,Q21',R22,Q22,st22,sr,sq⟩:=IA st20 R20 Q20 hr0 hq0 hne [.slice ra (qy p).length rc,.slice fa F.length fc,.slice pa P.length pc,.slice la L.length lc,.slice ca cs.length cc] [.int .i64 c3,.int .i64 t3,.int .i64 o3] rfl rfl
 have W21:=W20.step sr hwr
 have W22:=W21.step sq hwq
 have F21':=F20.step sr (λq=>hrf q.symm)
 have W211:=W21.1
 have W221:=W22.1
 have F211:=F21'.1
 have R221:=R22.1
 have Q221:=Q22.1
 have Q211:=Q21'.1
 have g:=(s20.ge.trans sr.ge).trans sq.ge
 have hK:=hgood t3 o3 u20 h22 p _ _ _ _ _ P cs st22 hp hfine hbind ⟨jr.mono g,⟨F,jf.mono g⟩,jp.mono g,⟨L,jl.mono g,hL⟩,jc.mono g,ok.pl,ok.cl,ok.cov⟩
 have hLP:(L.length:Int)=P.length:=by omega
 simp(disch:=first|omega|simp only[zz];try omega;done) only[↓reduceIte,go_sem,<-hwb,<-hh20',<-hh20,W20'.2.1,W20'.2.2.1,W20.at,W20.2.1,F20.at,F20.2.1,af hLP,R20.2.1,R20.2.2.1,<-hh21,W21.at,W21.2.1,F21'.at,F21'.2.1,Q21'.2.1,Q21'.2.2.1,<-hh22,W22.at,W22.2.1,R22.at,R22.2.1,Q22.at,Q22.2.1]
 rw[hc3]
 exact hK
end Go.Proofs.Z
namespace Go.Ev
open Go Rep Edict
variable {cs:List Value} {u:U} {h:H}
theorem vY{x:pW}:rep u h x cs=(cs=[.bool x.1,.int .i64 x.2]):=by simp [mO,lD,vE]
theorem Iw:sz pW=2:=rfl
theorem tV{x:pK}:rep u h x cs=(∃v,cs=[.int .i64 x.1,v]/\kM u h v x.2):=by
 apply propext
 simp only[mO,lD,qi]
 constructor
 ·rintro ⟨_,_,rfl,rfl,v,rfl,i⟩;exact⟨v,rfl,i⟩
 ·rintro ⟨v,rfl,i⟩;exact⟨_,_,rfl,rfl,v,rfl,i⟩
theorem Bu:sz pK=2:=rfl
theorem FO{x:vP}:rep u h x cs=(cs=[.int .i64 x.1,.bool x.2.1.1,.int .i64 x.2.1.2,.bool x.2.2.1,.int .i64 x.2.2.2]):=by simp [mO,lD,vE]
theorem UL:sz vP=5:=rfl
theorem xW{x:qW}:rep u h x cs=(∃v0 v1 v2 v3 v4,cs=[.int .i64 x.1.1,v0,v1,v2,v3,v4,.int .i64 x.2.2.2.2.2]/\kM u h v0 x.1.2/\kM u h v1 x.2.1/\kM u h v2 x.2.2.1/\kM u h v3 x.2.2.2.1/\kM u h v4 x.2.2.2.2.1):=by
 apply propext
 simp only[mO,qi,lD]
 constructor
 ·rintro ⟨_,_,rfl,⟨_,_,rfl,rfl,v0,rfl,i0⟩,_,_,rfl,⟨v1,rfl,i1⟩,_,_,rfl,⟨v2,rfl,i2⟩,_,_,rfl,⟨v3,rfl,i3⟩,_,_,rfl,⟨v4,rfl,i4⟩,rfl⟩
  exact⟨v0,v1,v2,v3,v4,rfl,i0,i1,i2,i3,i4⟩
 ·rintro ⟨v0,v1,v2,v3,v4,rfl,i0,i1,i2,i3,i4⟩
  exact⟨_,_,rfl,⟨_,_,rfl,rfl,v0,rfl,i0⟩,_,_,rfl,⟨v1,rfl,i1⟩,_,_,rfl,⟨v2,rfl,i2⟩,_,_,rfl,⟨v3,rfl,i3⟩,_,_,rfl,⟨v4,rfl,i4⟩,rfl⟩
theorem Iy:sz qW=7:=rfl
end Go.Ev
namespace Go.Proofs.Z
open Go Go.Ev Edict
variable {u':U} {nb:Nat} {h':H} {P:List Nm} {cs:List sU} {u:U}
variable {vs:List Value} {h:H} {K:Value->H->Prop} {KP:List PanicEntry->H->Prop}
structure Nb (u:U) (h:H) (nb:Nat) (P:List Nm) (cs:List sU):Prop where
 ex: ∃pv cv,kV u h nb [pv,cv]/\kM u h pv P/\kM u h cv cs
 pl:P.length<=1000000
 cl:cs.length<=1000000
theorem Nb.sZ{h:H}(n:Nb u h nb P cs)(s:kG S0 u h u' h'):Nb u' h' nb P cs:=by
 obtain⟨pv,cv,a,b,c⟩:=n.ex
 exact⟨⟨pv,cv,a.sZ s,b.mono s.ge,c.mono s.ge⟩,n.pl,n.cl⟩
theorem Nb.step{S:Nat->Prop}{h:H}(n:Nb u h nb P cs)(s:kG S u h u' h')(hn: ¬S nb):Nb u' h' nb P cs:=by
 obtain⟨pv,cv,a,b,c⟩:=n.ex
 exact⟨⟨pv,cv,a.step s hn,b.mono s.ge,c.mono s.ge⟩,n.pl,n.cl⟩
def UM(vs:List Value)(h:H)(K:Value->H->Prop):Prop:= ∃(u:U) (nb:Nat) (P:List Nm) (cs:List sU) (v:Value) (V:List Nm) (t:ll),vs=[.pointer (some ⟨nb,0,none⟩),v,.agg (lW t).toArray]/\Nb u h nb P cs/\kM u h v V/\V.length<=1000000/\ ∀u' h',kG S0 u h u' h'->K (.agg #[.bool (oq V cs t).1,.int .i64 (oq V cs t).2]) h'
def abR:mG:=λf vs h K _=>(f=40/\rz vs h K)\/(f=67/\Ah vs h K)\/(f=66/\Lh vs h K)
theorem Re:nz Tryz.prog abR:=mK oM (mK xY (qd NH))
theorem Lc(hC:UM vs h K):ma Tryz.prog 26 vs h K KP:=by
 obtain⟨u,nb,P,cs,v,V,t,rfl,n,iv,hV,hK⟩:=hC
 refine kP 615 [((some (.c1 (.ldn 2) (.t 6))),(.o1 (.ldn 2) (.t 6)))] Re Tryz.func26 (by kernel_rfl) (by conv=>lhs;cbv;try simp only[mF]) ?_
 obtain⟨va,vc,rfl,-,-⟩:=iv.sl
 obtain⟨h1,u1,hh1,zh1,p1,T1⟩:=kL u h (lW t) 98
 obtain⟨h2,u2,hh2,zh2,p2,R2⟩:=kL u1 h1 [.bool false,.int .i64 0] 32
 obtain⟨tb,htb⟩:=kJ h.size
 obtain⟨rb,hrb⟩:=kJ h1.size
 rw[<-htb]at T1
 rw[<-hrb]at R2
 have T2:=T1.sZ p2
 have st2:=p1.tZ p2
 have n2:=n.sZ st2
 simp only[lW]at hh1 T1 T2 ⊢
 have T21:=T2.1
 have R21:=R2.1
 have hrb0:h.size<=rb:=by omega
 have out: ∀(uX:U) (hX:H) (x:Bool) (y:Int),kG S0 u h uX hX->kV uX hX rb [.bool false,.int .i64 0]->(x,y)=oq V cs t-> ∃h9,h9=kU hX rb 0 [.bool x,.int .i64 y]/\kV uX h9 rb [.bool x,.int .i64 y]/\rb<h9.size/\K (.agg #[.bool x,.int .i64 y]) h9:=λuX hX x y st R e=>by
  have sR:=kG.sets (S:=λb=>b=rb) uX hX (b:=rb) (o:=0) [.bool x,.int .i64 y] rfl (by rw[R.2.2.2.1];exact az _) (by rw[R.2.1];exact aH _)
  have RH:=R.sets (l:=[.bool x,.int .i64 y]) rfl
  have hK:=hK uX _ (st.own sR λb q=>by rw[q];exact hrb0)
  rw[<-e]at hK
  exact⟨_,rfl,RH,RH.1,hK⟩
 by_cases h4:t.1=4
 ·obtain⟨h9,hh9,R9,R91,hK'⟩:=out u2 h2 true (rU V t.2.2.1) st2 R2 (by unfold oq;rw[ay h4])
  simp(disch:=first|omega|simp only[zz];try omega;done) only[↓reduceIte,go_sem,<-hh1,<-htb,<-hh2,<-hrb,T2.at,T2.2.1,af h4]
  refine kD (.inl ⟨rfl,u2,_,V,t.2.2.1,rfl,iv.mono st2.ge,by omega,⟨kY,?_⟩⟩)
  simp(disch:=first|omega|simp only[zz];try omega;done) only[↓reduceIte,go_sem,R2.2.1,R2.2.2.1,<-hh9,R9.at,R9.2.1]
  exact hK'
 ·obtain⟨pv,cv,N,ip,ic⟩:=n2.ex
  have N1:=N.1
  have hcl:=n2.cl
  obtain⟨ca,cc,rfl,-,-⟩:=ic.sl
  simp(disch:=first|omega|simp only[zz];try omega;done) only[↓reduceIte,go_sem,<-hh1,<-htb,<-hh2,<-hrb,T2.at,T2.2.1,au h4,N.at,N.2.1]
  refine kD (.inr (.inl ⟨rfl,u2,t,rfl,λu3 h3 s3=> ?_⟩))
  have N3:=N.sZ s3
  have N31:=N3.1
  refine⟨by simp(disch:=first|omega|simp only[zz];try omega;done) only[↓reduceIte,go_sem,N.at,N3.at,N3.2.1],?_⟩
  simp(disch:=first|omega|simp only[zz];try omega;done) only[↓reduceIte,go_sem,Vs]
  refine kD (.inr (.inr ⟨rfl,u3,_,cs,rH t,rfl,ic.mono s3.ge,by omega,λu4 h4' s4=>⟨kY,?_⟩⟩))
  have s34:=s3.tZ s4
  have R4:=R2.sZ s34
  obtain⟨h9,hh9,R9,R91,hK'⟩:=out u4 h4' false (Fs cs (rH t)) (st2.tZ s34) R4 (by unfold oq;rw[ah h4])
  have R41:=R4.1
  simp(disch:=first|omega|simp only[zz];try omega;done) only[↓reduceIte,go_sem,R4.2.1,R4.2.2.1,<-hh9,R9.at,R9.2.1]
  exact hK'
def Ld(vs:List Value)(h:H)(K:Value->H->Prop):Prop:= ∃(u:U) (nb:Nat) (P:List Nm) (cs:List sU) (v w:Value) (V:List Nm) (a:lH),vs=[.pointer (some ⟨nb,0,none⟩),v,.agg #[str a.1,w,.int .i64 a.2.2]]/\Nb u h nb P cs/\kM u h v V/\V.length<=1000000/\kM u h w a.2.1/\a.2.1.length<=8/\ ∀u' h' x,kG S0 u h u' h'->kM u' h' x (oP P cs V a).2->K (.agg #[.int .i64 (oP P cs V a).1,x]) h'
def Rf:mG:=λf vs h K _=>(f=40/\rz vs h K)\/(f=26/\UM vs h K)
theorem Iz:nz Tryz.prog Rf:=mK oM (qd Lc)
theorem NB(hC:Ld vs h K):ma Tryz.prog 25 vs h K KP:=by
 obtain⟨u,nb,P,cs,v,w,V,a,rfl,n,iv,hV,iw,ha8,hK⟩:=hC
 refine kP 7865063 [((some (.c1 (.ldn 2) (.t 6))),(.o1 (.ldn 2) (.t 6)))] Iz Tryz.func25 (by kernel_rfl) (by conv=>lhs;cbv;try simp only[mF]) ?_
 obtain⟨va,vc,rfl,-,-⟩:=iv.sl
 obtain⟨wa,wc,rfl,-,-⟩:=iw.sl
 obtain⟨h1,u1,hh1,zh1,p1,A1⟩:=kL u h [str a.1,.slice wa a.2.1.length wc,.int .i64 a.2.2] 52
 obtain⟨h2,u2,hh2,zh2,p2,R2⟩:=kL u1 h1 [.int .i64 0,.slice none 0 0] 59
 obtain⟨ab,hab⟩:=kJ h.size
 obtain⟨rb,hrb⟩:=kJ h1.size
 rw[<-hab]at A1
 rw[<-hrb]at R2
 have A2:=A1.sZ p2
 have st2:=p1.tZ p2
 have n2:=n.sZ st2
 have A21:=A2.1
 have R21:=R2.1
 have hrb0:h.size<=rb:=by omega
 obtain⟨pv,cv,N,ip,ic⟩:=n2.ex
 have N1:=N.1
 have hpl:=n2.pl
 obtain⟨pa,pc,rfl,-,-⟩:=ip.sl
 obtain⟨h3',h3,u3,hh3',hh3,B3',B3,s3,hz3⟩:=kZ u2 h2 [.int .i64 0,.slice none 0 0] [.int .i64 (rU P a.1),.slice none 0 0] 59 rfl
 obtain⟨ob,hob⟩:=kJ h2.size
 rw[<-hob]at B3' B3 hh3
 have B3'1:=B3'.1
 have B31:=B3.1
 obtain⟨h4,u4,hh4,zh4,p4,-⟩:=kL u2 h2 [.int .i64 0,.slice none 0 0] 59
 have e43:h4=h3':=by rw[hh4,hh3']
 simp(disch:=first|omega|simp only[zz];try omega;done) only[↓reduceIte,go_sem,<-hh1,<-hab,<-hh2,<-hrb]
 refine SV (λσ' h'=>JS (vH 0 [.pointer (some ⟨nb,0,none⟩),.slice va V.length vc] LV) σ' [0,1]/\σ' 5= .pointer (some ⟨ab,0,none⟩)/\σ' 6= .pointer (some ⟨rb,0,none⟩)/\σ' 7= .pointer (some ⟨ob,0,none⟩)/\h'=h3) ?_ ?_
 ·simp(disch:=first|omega|simp only[zz];try omega;done) only[↓reduceIte,go_sem,SE,N.at,N.2.1,A2.at,A2.2.1]
  refine⟨kD (.inl ⟨rfl,u2,_,P,a.1,rfl,ip,by omega,⟨kY,?_⟩⟩),?_⟩
  ·simp(disch:=first|omega|simp only[zz];try omega;done) only[↓reduceIte,go_sem,<-hob,<-hh3',<-hh3,B3'.2.1,B3'.2.2.1]
  ·rw[<-hh4]
   refine kD (.inl ⟨rfl,u4,_,P,a.1,rfl,ip.mono p4.ge,by omega,⟨kY,?_⟩⟩)
   rw[e43]
   simp(disch:=first|omega|simp only[zz];try omega;done) only[↓reduceIte,go_sem,<-hob,<-hh3,B3'.2.1,B3'.2.2.1]
 ·rintro σ' h' ⟨hkE,e5,e6,e7,rfl⟩
  simp(disch:=first|omega|simp only[zz];try omega;done) only[↓reduceIte,go_sem,Vs]at hkE
  obtain⟨e0,e1⟩:=hkE
  have st3:=st2.tZ s3
  have A3:=A2.sZ s3
  have R3:=R2.sZ s3
  have A31:=A3.1
  have hob0:h.size<=ob:=by omega
  simp(disch:=first|omega|simp only[zz];try omega;done) only[↓reduceIte,go_sem,e5,A3.at,A3.2.1]
  obtain⟨I,hI⟩:=kJ (α:=Nat->lm->H->Prop) λk σ h'=> ∃(u':U) (x:Value),σ 0= .pointer (some ⟨nb,0,none⟩)/\σ 1= .slice va V.length vc/\σ 6= .pointer (some ⟨rb,0,none⟩)/\σ 7= .pointer (some ⟨ob,0,none⟩)/\σ 19= .slice wa a.2.1.length wc/\σ 20= .int .i64 (a.2.1.length:Nat)/\σ 21= .int .i64 k/\k<=a.2.1.length/\kG S0 u h u' h'/\kV u' h' rb [.int .i64 0,.slice none 0 0]/\kV u' h' ob [.int .i64 (rU P a.1),x]/\mr ob u' h' x ((a.2.1.take k).map (oq V cs))/\ ¬kN x ob
  refine kH I (λj=>a.2.1.length - j) 0 (by rw[hI];exact⟨u3,_,by simp [kF,e0],by simp [kF,e1],by simp [kF,e6],by simp [kF,e7],by simp [kF],by simp [kF],by simp [kF],by omega,st3,R3,B3,by simpa using mr.nil _ _ _,xE _⟩) ?_
  clear e0 e1 e5 e6 e7 st3 A3 R3 A31 B3 B3' hh3 hh3' hh1 hh2
  intro k σ h' hi
  rw[hI]at hi
  obtain⟨u',x,e0,e1,e6,e7,e19,e20,e21,hk,st,R,B,ow,nx⟩:=hi
  have R1:=R.1
  have B1:=B.1
  have hrb1:rb<ob:=by omega
  by_cases hlt:k<a.2.1.length
  case neg=>
   rw[aK (by omega)]at ow
   have sR:=kG.sets (S:=λb=>b=rb) u' h' (b:=rb) (o:=0) [.int .i64 (rU P a.1),x] rfl (by rw[R.2.2.2.1];exact az _) (by rw[R.2.1];exact aH _)
   have RH:=R.sets (l:=[.int .i64 (rU P a.1),x]) rfl
   obtain⟨h9,hh9⟩:=kJ (kU h' rb 0 [.int .i64 (rU P a.1),x])
   rw[<-hh9]at sR RH
   have RH1:=RH.1
   have hK:=hK u' h9 x (st.own sR λb q=>by rw[q];exact hrb0) (ow.iZ.mono sR.ge)
   obtain⟨xa,xc,rfl,-,-⟩:=ow.sl
   simp(disch:=first|omega|simp only[zz];try omega;done) only[↓reduceIte,go_sem,e6,e7,e20,e21,au (show¬(k:Int)<(a.2.1.length:Nat) by omega),B.at,B.2.1,R.2.1,R.2.2.1,<-hh9,RH.at,RH.2.1]
   exact hK
  obtain⟨y,hy⟩: ∃y,a.2.1[k]? =some y:=⟨a.2.1[k],by simp [hlt]⟩
  obtain⟨pb,po,rfl,hpb,hpu,hpz,hpr⟩:=(iw.mono st.ge).row k y hy
  rw[mV]at hpr
  simp only[lW,uR,uH,aG,aP]at hpr hpu hpz
  obtain⟨p0,p1',p2',p3'⟩:=hpr
  obtain⟨h5',h6,u6,hh5,hh6,B5,B6,s6,hz6⟩:=kZ u' h' [.int .i64 0,.int .i64 0,str [],.int .i64 0] (lW y) 98 rfl
  simp only[lW]at hh6 B6
  have B51:=B5.1
  have B61:=B6.1
  obtain⟨cb,hcb⟩:=kJ h'.size
  rw[<-hcb]at B5 B51 B6 B61 hh6
  have O6:=B.sZ s6
  have O61:=O6.1
  have st6:=st.tZ s6
  obtain⟨xa,xc,rfl,-,-⟩:=ow.sl
  have hml:((a.2.1.take k).map (oq V cs)).length<=8:=by rw[aQ,aT];omega
  simp(disch:=first|omega|simp only[zz];try omega;done) only[↓reduceIte,go_sem,e0,e1,e7,e19,e20,e21,af (show(k:Int)<(a.2.1.length:Nat) by omega),p0,p1',p2',p3',<-hcb,<-hh5,<-hh6,B5.2.1,B5.2.2.1,B6.at,B6.2.1,O6.at,O6.2.1]
  refine kD (.inr ⟨rfl,u6,nb,P,cs,_,V,y,rfl,n.sZ st6,iv.mono st6.ge,hV,λu7 h7 s7=> ?_⟩)
  have O7:=O6.sZ s7
  have O71:=O7.1
  refine⟨by simp(disch:=first|omega|simp only[zz];try omega;done) only[↓reduceIte,go_sem,e7,O6.at,O7.at,O7.2.1],?_⟩
  simp(disch:=first|omega|simp only[zz];try omega;done) only[↓reduceIte,go_sem,e7,O7.at,O7.2.1]
  refine kK (by simp only[]) ((ow.sZ s6).sZ s7) (x:=oq V cs y) (by rw[vY]) rfl rfl (by omega) (by omega) λa8 n8 c8 u8 h8 o8 s8 hO8=>⟨kY,?_⟩
  have O8:=O7.step s8 nx
  have O81:=O8.1
  have nx8: ¬kN (.slice a8 n8 c8) ob:=λq=>by
   rcases hO8 _ q with q|q
   ·exact nx q
   ·omega
  have s9:=kG.set (S:=λb=>b=ob) u8 h8 (b:=ob) (o:=1) (.slice a8 n8 c8) rfl (by rw[O8.2.2.2.1];exact az _)
  have st7:=st6.tZ s7
  have ge8: ∀b,kN (.slice xa ((a.2.1.take k).map (oq V cs)).length xc) b->ob<=b:=λb q=>ow.ge q
  have st9:=(st7.own s8 λb q=>aY hob0 (ge8 b q)).own s9 λb q=>by rw[q];exact hob0
  have R9:=(((R.sZ s6).sZ s7).step s8 λq=>by have:=ge8 _ q;omega).step s9 λq=>by omega
  simp(disch:=first|omega|simp only[zz];try omega;done) only[↓reduceIte,go_sem,e7,e21,O8.2.1,O8.2.2.1]
  refine⟨k+1,?_,by omega⟩
  rw[hI]
  refine⟨u8,_,by simp [kF,e0],by simp [kF,e1],by simp [kF,e6],by simp [kF,e7],by simp [kF,e19],by simp [kF,e20],by simp [kF],hlt,st9,R9,O8.set (i:=1) (v:= .slice a8 n8 c8) (by simp),?_,nx8⟩
  have e:(a.2.1.take (k+1)).map (oq V cs)=(a.2.1.take k).map (oq V cs)++[oq V cs y]:=by rw[aS,hy];simp
  rw[e]
  exact o8.step s9 λb q e=>nx8 (e▸q)
end Go.Proofs.Z
namespace Go.Proofs.Z
open Go Go.Ev Edict
def YH(x:Nm):Nm:=if 1<x.length/\x.getD 0 0=95/\x.getD 1 0=32 then [95]else x
def WN(vs:List Value)(h:H)(K:Value->H->Prop):Prop:= ∃(u:U) (v:Value) (V:List Nm),vs=[v]/\kM u h v V/\V.length<=1000000/\ ∀u' h' w,kG S0 u h u' h'->kM u' h' w (wD V)->K w h'
theorem UK{vs:List Value}{h:H}{K:Value->H->Prop}{KP:List PanicEntry->H->Prop}(hC:WN vs h K):ma Tryz.prog 27 vs h K KP:=by
 obtain⟨u,v,V,rfl,iv,hV,hK⟩:=hC
 refine kP 16778221 [(none,(.t 2))] (G:=(λ_ _ _ _ _=>False)) (λ_ _ _ _ _ h=>h.elim) Tryz.func27 (by kernel_rfl) (by conv=>lhs;cbv;try simp only[mF]) ?_
 obtain⟨va,vc,rfl,-,-⟩:=iv.sl
 simp(disch:=first|omega|simp only[zz];try omega;done) only[↓reduceIte,go_sem]
 obtain⟨I,hI⟩:=kJ (α:=Nat->lm->H->Prop) λk σ h'=> ∃(u':U) (x:Value),σ 3=x/\σ 6= .slice va V.length vc/\σ 7= .int .i64 (V.length:Nat)/\σ 8= .int .i64 k/\k<=V.length/\kG S0 u h u' h'/\mr h.size u' h' x ((V.take k).map YH)
 refine kH I (λj=>V.length - j) 0 (by rw[hI];exact⟨u,.slice none 0 0,by simp [kF],by simp [kF],by simp [kF],by simp [kF],by omega,.refl _ _ _,by simpa using mr.nil _ _ _⟩) ?_
 intro k σ h' hi
 rw[hI]at hi
 obtain⟨u',x,e3,e6,e7,e8,hk,st,ow⟩:=hi
 obtain⟨xa,xc,rfl,-,-⟩:=ow.sl
 by_cases hlt:k<V.length
 case neg=>
  rw[aK (by omega)]at ow
  simp(disch:=first|omega|simp only[zz];try omega;done) only[↓reduceIte,go_sem,e3,e7,e8,au (show¬(k:Int)<(V.length:Nat) by omega)]
  rw[aK (by omega)]
  exact hK _ _ _ st ow.iZ
 obtain⟨y,hy⟩:=uu hlt
 obtain⟨pb,po,rfl,hpb,hpu,hpz,hpr⟩:=(iv.mono st.ge).row k y hy
 rw[nu]at hpr
 simp only[FQ,oV,aG,aP]at hpr hpu hpz
 have hml:((V.take k).map YH).length<=1000000:=by rw[aQ,aT];omega
 have hz:=st.ge.sz
 have e:(V.take (k+1)).map YH=(V.take k).map YH++[YH y]:=by rw[aS,hy];simp
 have c0:((y.getD 0 0).toNat:Int)=95↔y.getD 0 0=95:=by rw[show(95:Int)=((95:UInt8).toNat:Int)from rfl,Int.ofNat_inj];exact⟨λq=>gT.1 q,λq=>by rw[q]⟩
 have c1:((y.getD 1 0).toNat:Int)=32↔y.getD 1 0=32:=by rw[show(32:Int)=((32:UInt8).toNat:Int)from rfl,Int.ofNat_inj];exact⟨λq=>gT.1 q,λq=>by rw[q]⟩
 by_cases h1:1<y.length
 ·by_cases h2:y.getD 0 0=95
  ·by_cases h3:y.getD 1 0=32
   ·have hn:YH y=[95]:=by unfold YH;rw[ay ⟨h1,h2,h3⟩]
    simp(disch:=first|omega|simp only[zz];try omega;done) only[↓reduceIte,go_sem,e3,e6,e7,e8,af (show(k:Int)<(V.length:Nat) by omega),hpr,af (show(1:Int)<(y.length:Nat) by omega),af (show(0:Int)<(y.length:Nat) by omega),af (c0.2 h2),af (c1.2 h3)]
    refine kK (by simp only[]) ow (x:=[95]) (by rw[nu]) rfl rfl hz (by omega) λa8 n8 c8 u8 h8 o8 s8 hO8=>⟨kY,?_⟩
    simp(disch:=first|omega|simp only[zz];try omega;done) only[↓reduceIte,go_sem,e8]
    exact⟨k+1,by rw[hI];exact⟨u8,.slice a8 n8 c8,by simp [kF],by simp [kF,e6],by simp [kF,e7],by simp [kF],hlt,st.own s8 λb q=>ow.ge q,by rw[e,hn];exact o8⟩,by omega⟩
   ·have hn:YH y=y:=by unfold YH;rw[ah λq=>h3 q.2.2]
    simp(disch:=first|omega|simp only[zz];try omega;done) only[↓reduceIte,go_sem,e3,e6,e7,e8,af (show(k:Int)<(V.length:Nat) by omega),hpr,af (show(1:Int)<(y.length:Nat) by omega),af (show(0:Int)<(y.length:Nat) by omega),af (c0.2 h2),au (λq=>h3 (c1.1 q))]
    refine kK (by simp only[]) ow (x:=y) (by rw[nu]) rfl rfl hz (by omega) λa8 n8 c8 u8 h8 o8 s8 hO8=>⟨kY,?_⟩
    simp(disch:=first|omega|simp only[zz];try omega;done) only[↓reduceIte,go_sem,e8]
    exact⟨k+1,by rw[hI];exact⟨u8,.slice a8 n8 c8,by simp [kF],by simp [kF,e6],by simp [kF,e7],by simp [kF],hlt,st.own s8 λb q=>ow.ge q,by rw[e,hn];exact o8⟩,by omega⟩
  ·have hn:YH y=y:=by unfold YH;rw[ah λq=>h2 q.2.1]
   simp(disch:=first|omega|simp only[zz];try omega;done) only[↓reduceIte,go_sem,e3,e6,e7,e8,af (show(k:Int)<(V.length:Nat) by omega),hpr,af (show(1:Int)<(y.length:Nat) by omega),af (show(0:Int)<(y.length:Nat) by omega),au (λq=>h2 (c0.1 q))]
   refine kK (by simp only[]) ow (x:=y) (by rw[nu]) rfl rfl hz (by omega) λa8 n8 c8 u8 h8 o8 s8 hO8=>⟨kY,?_⟩
   simp(disch:=first|omega|simp only[zz];try omega;done) only[↓reduceIte,go_sem,e8]
   exact⟨k+1,by rw[hI];exact⟨u8,.slice a8 n8 c8,by simp [kF],by simp [kF,e6],by simp [kF,e7],by simp [kF],hlt,st.own s8 λb q=>ow.ge q,by rw[e,hn];exact o8⟩,by omega⟩
 ·have hn:YH y=y:=by unfold YH;rw[ah λq=>h1 q.1]
  simp(disch:=first|omega|simp only[zz];try omega;done) only[↓reduceIte,go_sem,e3,e6,e7,e8,af (show(k:Int)<(V.length:Nat) by omega),hpr,au (show¬(1:Int)<(y.length:Nat) by omega)]
  refine kK (by simp only[]) ow (x:=y) (by rw[nu]) rfl rfl hz (by omega) λa8 n8 c8 u8 h8 o8 s8 hO8=>⟨kY,?_⟩
  simp(disch:=first|omega|simp only[zz];try omega;done) only[↓reduceIte,go_sem,e8]
  exact⟨k+1,by rw[hI];exact⟨u8,.slice a8 n8 c8,by simp [kF],by simp [kF,e6],by simp [kF,e7],by simp [kF],hlt,st.own s8 λb q=>ow.ge q,by rw[e,hn];exact o8⟩,by omega⟩
structure Ru (u:U) (h:H) (ob:Nat) (x0 x1 x5 x6 vp vt vn:Value) (P:List pK) (T:List vP) (N:List pK):Prop where
 B:kV u h ob [x0,x1,vp,vt,vn,x5,x6]
 p:mr ob u h vp P
 t:mr ob u h vt T
 n:mr ob u h vn N
 ap:Ap h [ob] [vp,vt,vn]
section
variable {ob:Nat} {u u':U} {h h':H} {x0 x1 x5 x6 vp vt vn w:Value} {P:List pK} {T:List vP} {N:List pK}
theorem Ru.sZ(r:Ru u h ob x0 x1 x5 x6 vp vt vn P T N)(s:kG S0 u h u' h'):Ru u' h' ob x0 x1 x5 x6 vp vt vn P T N:=⟨r.B.sZ s,r.p.sZ s,r.t.sZ s,r.n.sZ s,r.ap.mono s.ge.sz⟩
theorem Ru.setP(r:Ru u h ob x0 x1 x5 x6 vp vt vn P T N){l:List pK}(o:mr ob u' h' w l)(s:kG (kN vp) u h u' h')(hO: ∀b,kN w b->kN vp b\/h.size<=b):
  kV u' h' ob [x0,x1,vp,vt,vn,x5,x6]/\Ru u' (lh h' ob 2 w) ob x0 x1 x5 x6 w vt vn l T N/\kG (λb=>ob<=b) u h u' (lh h' ob 2 w):=by
 have a:=r.ap
 have B':=r.B.step s (a.no vp (by simp) ob (by simp))
 have t:=kG.set (S:=λb=>b=ob) u' h' (b:=ob) (o:=2) w rfl (by rw[B'.2.2.2.1];exact az _)
 have a':=a.set (i:=0) (v':=w) (h':=h') rfl hO (λb q=>o.lt q) s.ge.sz
 have st:=(s.mono (S':=λb=>b=ob\/kN vp b) λb _ q=> .inr q).trans t λb _ q=> .inl q
 refine⟨B',⟨B'.set (i:=2) (v:=w) (by simp),o.step t λb q e=>a'.no w (by simp) ob (by simp) (e▸q),(r.t.step s λb q q'=>a.apt 1 0 _ _ rfl rfl (by decide) b q q').step t λb q e=>a.no vt (by simp) ob (by simp) (e▸q),(r.n.step s λb q q'=>a.apt 2 0 _ _ rfl rfl (by decide) b q q').step t λb q e=>a.no vn (by simp) ob (by simp) (e▸q),a'.mono (by rw[qz];exact aH _)⟩,st.mono λb _ q=> ?_⟩
 rcases q with rfl|q
 ·exact aH _
 ·exact r.p.ge q
theorem Ru.setT(r:Ru u h ob x0 x1 x5 x6 vp vt vn P T N){l:List vP}(o:mr ob u' h' w l)(s:kG (kN vt) u h u' h')(hO: ∀b,kN w b->kN vt b\/h.size<=b):
  kV u' h' ob [x0,x1,vp,vt,vn,x5,x6]/\Ru u' (lh h' ob 3 w) ob x0 x1 x5 x6 vp w vn P l N/\kG (λb=>ob<=b) u h u' (lh h' ob 3 w):=by
 have a:=r.ap
 have B':=r.B.step s (a.no vt (by simp) ob (by simp))
 have t:=kG.set (S:=λb=>b=ob) u' h' (b:=ob) (o:=3) w rfl (by rw[B'.2.2.2.1];exact az _)
 have a':=a.set (i:=1) (v':=w) (h':=h') rfl hO (λb q=>o.lt q) s.ge.sz
 have st:=(s.mono (S':=λb=>b=ob\/kN vt b) λb _ q=> .inr q).trans t λb _ q=> .inl q
 refine⟨B',⟨B'.set (i:=3) (v:=w) (by simp),(r.p.step s λb q q'=>a.apt 0 1 _ _ rfl rfl (by decide) b q q').step t λb q e=>a.no vp (by simp) ob (by simp) (e▸q),o.step t λb q e=>a'.no w (by simp) ob (by simp) (e▸q),(r.n.step s λb q q'=>a.apt 2 1 _ _ rfl rfl (by decide) b q q').step t λb q e=>a.no vn (by simp) ob (by simp) (e▸q),a'.mono (by rw[qz];exact aH _)⟩,st.mono λb _ q=> ?_⟩
 rcases q with rfl|q
 ·exact aH _
 ·exact r.t.ge q
theorem Ru.setN(r:Ru u h ob x0 x1 x5 x6 vp vt vn P T N){l:List pK}(o:mr ob u' h' w l)(s:kG (kN vn) u h u' h')(hO: ∀b,kN w b->kN vn b\/h.size<=b):
  kV u' h' ob [x0,x1,vp,vt,vn,x5,x6]/\Ru u' (lh h' ob 4 w) ob x0 x1 x5 x6 vp vt w P T l/\kG (λb=>ob<=b) u h u' (lh h' ob 4 w):=by
 have a:=r.ap
 have B':=r.B.step s (a.no vn (by simp) ob (by simp))
 have t:=kG.set (S:=λb=>b=ob) u' h' (b:=ob) (o:=4) w rfl (by rw[B'.2.2.2.1];exact az _)
 have a':=a.set (i:=2) (v':=w) (h':=h') rfl hO (λb q=>o.lt q) s.ge.sz
 have st:=(s.mono (S':=λb=>b=ob\/kN vn b) λb _ q=> .inr q).trans t λb _ q=> .inl q
 refine⟨B',⟨B'.set (i:=4) (v:=w) (by simp),(r.p.step s λb q q'=>a.apt 0 2 _ _ rfl rfl (by decide) b q q').step t λb q e=>a.no vp (by simp) ob (by simp) (e▸q),(r.t.step s λb q q'=>a.apt 1 2 _ _ rfl rfl (by decide) b q q').step t λb q e=>a.no vt (by simp) ob (by simp) (e▸q),o.step t λb q e=>a'.no w (by simp) ob (by simp) (e▸q),a'.mono (by rw[qz];exact aH _)⟩,st.mono λb _ q=> ?_⟩
 rcases q with rfl|q
 ·exact aH _
 ·exact r.n.ge q
end
def CF:mG:=λf vs h K _=>(f=25/\Ld vs h K)\/(f=26/\UM vs h K)\/(f=27/\WN vs h K)
theorem Rb:nz Tryz.prog CF:=mK NB (mK Lc (qd UK))
theorem adY {nb cb ob:Nat} {u:U} {h:H} {x0 x1 x5 x6 vt vn:Value} {P:List Nm} {cs:List sU} {V:List Nm} {T:List vP} {N:List pK} {c0 c1 c2 c3 c4 c5 c7:Value} {va:Option Addr} {vc:Nat} {σ0:lm} {Q:qm} {l:List lH} {la:Option Addr} {lc:Nat}
  (r:Ru u h ob x0 x1 x5 x6 (.slice none 0 0) vt vn [] T N) (C:kV u h cb [c0,c1,c2,c3,c4,c5,.slice va V.length vc,c7]) (n:Nb u h nb P cs) (iv:kM u h (.slice va V.length vc) V) (hV:V.length<=1000000) (il:kM u h (.slice la l.length lc) l) (hl:l.length<=16) (h8: ∀a∈l,a.2.1.length<=8) (hcb:cb<ob) (hnb:nb<ob)
  (f0:σ0 0= .pointer (some ⟨nb,0,none⟩)) (f3:σ0 3= .pointer (some ⟨cb,0,none⟩)) (f5:σ0 5= .pointer (some ⟨ob,0,none⟩)) (f20:σ0 20= .slice la l.length lc) (f21:σ0 21= .int .i64 (l.length:Nat)) (f22:σ0 22= .int .i64 0)
  (hQ: ∀σ' u' h' w',(∀i,i<22->i≠7->σ' i=σ0 i)->Ru u' h' ob x0 x1 x5 x6 w' vt vn (l.map (oP P cs V)) T N->kG (λb=>ob<=b) u h u' h'->Q (.exit 0) σ' h'):wpS CF (.loop Zi) Q σ0 h:=by
 obtain⟨I,hI⟩:=kJ (α:=Nat->lm->H->Prop) λk σ h'=> ∃(u':U) (w':Value),σ 22= .int .i64 k/\(∀i,i<22->i≠7->σ i=σ0 i)/\k<=l.length/\Ru u' h' ob x0 x1 x5 x6 w' vt vn ((l.take k).map (oP P cs V)) T N/\kG (λb=>ob<=b) u h u' h'
 refine kH I (λj=>l.length - j) 0 (by rw[hI];exact⟨u,_,by rw[f22];rfl,λi _ _=>rfl,by omega,by simpa using r,.refl _ _ _⟩) ?_
 intro k σ h' hi
 rw[hI]at hi
 obtain⟨u',w',e22,eσ,hk,r',st⟩:=hi
 have e0:=(eσ 0 (by omega) (by omega)).trans f0
 have e3:=(eσ 3 (by omega) (by omega)).trans f3
 have e5:=(eσ 5 (by omega) (by omega)).trans f5
 have e20:=(eσ 20 (by omega) (by omega)).trans f20
 have e21:=(eσ 21 (by omega) (by omega)).trans f21
 by_cases hlt:k<l.length
 case neg=>
  rw[aK (by omega)]at r'
  simp(disch:=first|omega|simp only[zz];try omega;done) only[↓reduceIte,go_sem,Zi,e21,e22,au (show¬(k:Int)<(l.length:Nat) by omega)]
  exact hQ _ _ _ _ (λi a b=>by simp only[kF];rw[ah (by omega)];exact eσ i (by omega) b) r' st
 obtain⟨y,hy⟩:=uu hlt
 have hy8:=h8 y (aI hy)
 obtain⟨pb,po,rfl,hpb,hpu,hpz,hpr⟩:=(il.mono st.ge).row k y hy
 rw[oK]at hpr
 obtain⟨yv,hpr,iyv⟩:=hpr
 obtain⟨ya,yc,rfl,-,-⟩:=iyv.sl
 simp only[uU,vD,aG,aP]at hpr hpu hpz
 obtain⟨p0,p1',p2'⟩:=hpr
 obtain⟨h5',h6,u6,hh5,hh6,B5,B6,s6,hz6⟩:=kZ u' h' [str [],.slice none 0 0,.int .i64 0] [str y.1,.slice ya y.2.1.length yc,.int .i64 y.2.2] 52 rfl
 have B51:=B5.1
 have B61:=B6.1
 obtain⟨bb,hbb⟩:=kJ h'.size
 rw[<-hbb]at B5 B51 B6 B61 hh6
 have st6:=st.zero s6
 have r6:=r'.sZ s6
 have r61:=r6.B.1
 have C6:=C.step st6 (λq=>by omega)
 have C61:=C6.1
 have n6:=n.step st6 (λq=>by omega)
 obtain⟨wa,wc,rfl,-,-⟩:=r'.p.sl
 have hml:((l.take k).map (oP P cs V)).length<=16:=by rw[aQ,aT];omega
 simp(disch:=first|omega|simp only[zz];try omega;done) only[↓reduceIte,go_sem,Zi,e0,e3,e5,e20,e21,e22,af (show(k:Int)<(l.length:Nat) by omega),p0,p1',p2',<-hbb,<-hh5,<-hh6,B5.2.1,B5.2.2.1,B6.at,B6.2.1,r6.B.at,r6.B.2.1,C6.at,C6.2.1]
 refine kD (.inl ⟨rfl,u6,nb,P,cs,_,_,V,y,rfl,n6,iv.mono st6.ge,hV,iyv.mono s6.ge,hy8,λu7 h7 x s7 i7=> ?_⟩)
 have r7:=r6.sZ s7
 have r71:=r7.B.1
 have st7:=st6.zero s7
 obtain⟨xa,xc,rfl,-,-⟩:=i7.sl
 refine⟨by simp(disch:=first|omega|simp only[zz];try omega;done) only[↓reduceIte,go_sem,e5,r6.B.at,r7.B.at,r7.B.2.1],?_⟩
 simp(disch:=first|omega|simp only[zz];try omega;done) only[↓reduceIte,go_sem,e5,r7.B.at,r7.B.2.1]
 refine kK (by simp only[]) r7.p (x:=oP P cs V y) (by rw[tV];exact⟨_,rfl,i7⟩) rfl rfl (by omega) (by omega) λa8 n8 c8 u8 h8 o8 s8 hO8=>⟨kY,?_⟩
 obtain⟨C8,r9,st9⟩:=r7.setP o8 s8 hO8
 have C81:=C8.1
 simp(disch:=first|omega|simp only[zz];try omega;done) only[↓reduceIte,go_sem,e5,e22,C8.2.1,C8.2.2.1]
 refine⟨k+1,?_,by omega⟩
 rw[hI]
 have e:(l.take (k+1)).map (oP P cs V)=(l.take k).map (oP P cs V)++[oP P cs V y]:=by rw[aS,hy];simp
 refine⟨u8,.slice a8 n8 c8,by simp [kF],λi a b=> ?_,hlt,by rw[e];exact r9,st7.trans st9 λ_ _ q=>q⟩
 simp only[kF]
 repeat rw[ah (by omega)]
 exact eσ i a b
theorem adZ {nb cb ob:Nat} {u:U} {h:H} {x0 x1 x5 x6 vp vt:Value} {P:List Nm} {cs:List sU} {V:List Nm} {PP:List pK} {T:List vP} {c0 c1 c2 c3 c4 c5 c7:Value} {va:Option Addr} {vc:Nat} {σ0:lm} {Q:qm} {l:List lH} {la:Option Addr} {lc:Nat}
  (r:Ru u h ob x0 x1 x5 x6 vp vt (.slice none 0 0) PP T []) (C:kV u h cb [c0,c1,c2,c3,c4,c5,.slice va V.length vc,c7]) (n:Nb u h nb P cs) (iv:kM u h (.slice va V.length vc) V) (hV:V.length<=1000000) (il:kM u h (.slice la l.length lc) l) (hl:l.length<=16) (h8: ∀a∈l,a.2.1.length<=8) (hcb:cb<ob) (hnb:nb<ob)
  (f0:σ0 0= .pointer (some ⟨nb,0,none⟩)) (f3:σ0 3= .pointer (some ⟨cb,0,none⟩)) (f5:σ0 5= .pointer (some ⟨ob,0,none⟩)) (f66:σ0 66= .slice la l.length lc) (f67:σ0 67= .int .i64 (l.length:Nat)) (f68:σ0 68= .int .i64 0)
  (hQ: ∀σ' u' h' w',(∀i,i<68->i≠11->σ' i=σ0 i)->Ru u' h' ob x0 x1 x5 x6 vp vt w' PP T (l.map (oP P cs V))->kG (λb=>ob<=b) u h u' h'->Q (.exit 4) σ' h'):wpS CF (.loop Zk) Q σ0 h:=by
 obtain⟨I,hI⟩:=kJ (α:=Nat->lm->H->Prop) λk σ h'=> ∃(u':U) (w':Value),σ 68= .int .i64 k/\(∀i,i<68->i≠11->σ i=σ0 i)/\k<=l.length/\Ru u' h' ob x0 x1 x5 x6 vp vt w' PP T ((l.take k).map (oP P cs V))/\kG (λb=>ob<=b) u h u' h'
 refine kH I (λj=>l.length - j) 0 (by rw[hI];exact⟨u,_,by rw[f68];rfl,λi _ _=>rfl,by omega,by simpa using r,.refl _ _ _⟩) ?_
 intro k σ h' hi
 rw[hI]at hi
 obtain⟨u',w',e68,eσ,hk,r',st⟩:=hi
 have e0:=(eσ 0 (by omega) (by omega)).trans f0
 have e3:=(eσ 3 (by omega) (by omega)).trans f3
 have e5:=(eσ 5 (by omega) (by omega)).trans f5
 have e66:=(eσ 66 (by omega) (by omega)).trans f66
 have e67:=(eσ 67 (by omega) (by omega)).trans f67
 by_cases hlt:k<l.length
 case neg=>
  rw[aK (by omega)]at r'
  simp(disch:=first|omega|simp only[zz];try omega;done) only[↓reduceIte,go_sem,Zk,e67,e68,au (show¬(k:Int)<(l.length:Nat) by omega)]
  exact hQ _ _ _ _ (λi a b=>by simp only[kF];rw[ah (by omega)];exact eσ i (by omega) b) r' st
 obtain⟨y,hy⟩:=uu hlt
 have hy8:=h8 y (aI hy)
 obtain⟨pb,po,rfl,hpb,hpu,hpz,hpr⟩:=(il.mono st.ge).row k y hy
 rw[oK]at hpr
 obtain⟨yv,hpr,iyv⟩:=hpr
 obtain⟨ya,yc,rfl,-,-⟩:=iyv.sl
 simp only[uU,vD,aG,aP]at hpr hpu hpz
 obtain⟨p0,p1',p2'⟩:=hpr
 obtain⟨h5',h6,u6,hh5,hh6,B5,B6,s6,hz6⟩:=kZ u' h' [str [],.slice none 0 0,.int .i64 0] [str y.1,.slice ya y.2.1.length yc,.int .i64 y.2.2] 52 rfl
 have B51:=B5.1
 have B61:=B6.1
 obtain⟨bb,hbb⟩:=kJ h'.size
 rw[<-hbb]at B5 B51 B6 B61 hh6
 have st6:=st.zero s6
 have r6:=r'.sZ s6
 have r61:=r6.B.1
 have C6:=C.step st6 (λq=>by omega)
 have C61:=C6.1
 have n6:=n.step st6 (λq=>by omega)
 obtain⟨wa,wc,rfl,-,-⟩:=r'.n.sl
 have hml:((l.take k).map (oP P cs V)).length<=16:=by rw[aQ,aT];omega
 simp(disch:=first|omega|simp only[zz];try omega;done) only[↓reduceIte,go_sem,Zk,e0,e3,e5,e66,e67,e68,af (show(k:Int)<(l.length:Nat) by omega),p0,p1',p2',<-hbb,<-hh5,<-hh6,B5.2.1,B5.2.2.1,B6.at,B6.2.1,r6.B.at,r6.B.2.1,C6.at,C6.2.1]
 refine kD (.inl ⟨rfl,u6,nb,P,cs,_,_,V,y,rfl,n6,iv.mono st6.ge,hV,iyv.mono s6.ge,hy8,λu7 h7 x s7 i7=> ?_⟩)
 have r7:=r6.sZ s7
 have r71:=r7.B.1
 have st7:=st6.zero s7
 obtain⟨xa,xc,rfl,-,-⟩:=i7.sl
 refine⟨by simp(disch:=first|omega|simp only[zz];try omega;done) only[↓reduceIte,go_sem,e5,r6.B.at,r7.B.at,r7.B.2.1],?_⟩
 simp(disch:=first|omega|simp only[zz];try omega;done) only[↓reduceIte,go_sem,e5,r7.B.at,r7.B.2.1]
 refine kK (by simp only[]) r7.n (x:=oP P cs V y) (by rw[tV];exact⟨_,rfl,i7⟩) rfl rfl (by omega) (by omega) λa8 n8 c8 u8 h8 o8 s8 hO8=>⟨kY,?_⟩
 obtain⟨C8,r9,st9⟩:=r7.setN o8 s8 hO8
 have C81:=C8.1
 simp(disch:=first|omega|simp only[zz];try omega;done) only[↓reduceIte,go_sem,e5,e68,C8.2.1,C8.2.2.1]
 refine⟨k+1,?_,by omega⟩
 rw[hI]
 have e:(l.take (k+1)).map (oP P cs V)=(l.take k).map (oP P cs V)++[oP P cs V y]:=by rw[aS,hy];simp
 refine⟨u8,.slice a8 n8 c8,by simp [kF],λi a b=> ?_,hlt,by rw[e];exact r9,st7.trans st9 λ_ _ q=>q⟩
 simp only[kF]
 repeat rw[ah (by omega)]
 exact eσ i a b
end Go.Proofs.Z
namespace Go.Proofs.Z
open Go Go.Ev Edict
theorem adX {nb cb ob:Nat} {u:U} {h:H} {x0 x1 x5 x6 vp vn:Value} {P:List Nm} {cs:List sU} {V:List Nm} {PP:List pK} {N:List pK} {c0 c1 c2 c3 c4 c5 c7:Value} {va:Option Addr} {vc:Nat} {σ0:lm} {Q:qm} {l:List lV} {la:Option Addr} {lc:Nat}
  (r:Ru u h ob x0 x1 x5 x6 vp (.slice none 0 0) vn PP [] N) (C:kV u h cb [c0,c1,c2,c3,c4,c5,.slice va V.length vc,c7]) (n:Nb u h nb P cs) (iv:kM u h (.slice va V.length vc) V) (hV:V.length<=1000000) (il:kM u h (.slice la l.length lc) l) (hl:l.length<=16) (hcb:cb<ob) (hnb:nb<ob)
  (f0:σ0 0= .pointer (some ⟨nb,0,none⟩)) (f3:σ0 3= .pointer (some ⟨cb,0,none⟩)) (f5:σ0 5= .pointer (some ⟨ob,0,none⟩)) (f38:σ0 38= .slice la l.length lc) (f39:σ0 39= .int .i64 (l.length:Nat)) (f40:σ0 40= .int .i64 0)
  (hQ: ∀σ' u' h' w',(∀i,i<40->i≠9->σ' i=σ0 i)->Ru u' h' ob x0 x1 x5 x6 vp w' vn PP (l.map (Oe cs V)) N->kG (λb=>ob<=b) u h u' h'->Q (.exit 2) σ' h'):wpS CF (.loop Zj) Q σ0 h:=by
 obtain⟨I,hI⟩:=kJ (α:=Nat->lm->H->Prop) λk σ h'=> ∃(u':U) (w':Value),σ 40= .int .i64 k/\(∀i,i<40->i≠9->σ i=σ0 i)/\k<=l.length/\Ru u' h' ob x0 x1 x5 x6 vp w' vn PP ((l.take k).map (Oe cs V)) N/\kG (λb=>ob<=b) u h u' h'
 refine kH I (λj=>l.length - j) 0 (by rw[hI];exact⟨u,_,by rw[f40];rfl,λi _ _=>rfl,by omega,by simpa using r,.refl _ _ _⟩) ?_
 intro k σ h' hi
 rw[hI]at hi
 obtain⟨u',w',e40,eσ,hk,r',st⟩:=hi
 have e0:=(eσ 0 (by omega) (by omega)).trans f0
 have e3:=(eσ 3 (by omega) (by omega)).trans f3
 have e5:=(eσ 5 (by omega) (by omega)).trans f5
 have e38:=(eσ 38 (by omega) (by omega)).trans f38
 have e39:=(eσ 39 (by omega) (by omega)).trans f39
 by_cases hlt:k<l.length
 case neg=>
  rw[aK (by omega)]at r'
  simp(disch:=first|omega|simp only[zz];try omega;done) only[↓reduceIte,go_sem,Zj,e39,e40,au (show¬(k:Int)<(l.length:Nat) by omega)]
  exact hQ _ _ _ _ (λi a b=>by simp only[kF];rw[ah (by omega)];exact eσ i (by omega) b) r' st
 obtain⟨y,hy⟩:=uu hlt
 obtain⟨pb,po,rfl,hpb,hpu,hpz,hpr⟩:=(il.mono st.ge).row k y hy
 rw[tQ]at hpr
 obtain⟨yv,hpr,iyv⟩:=hpr
 obtain⟨ya,yc,rfl,-,-⟩:=iyv.sl
 simp only[nL,yS,xF,aG,aP]at hpr hpu hpz
 obtain⟨q0,q1,q2,q3,q4,q5,q6,q7,q8,q9,q10,q11,q12,q13⟩:=hpr
 obtain⟨h5',h6,u6,hh5,hh6,B5,B6,s6,hz6⟩:=kZ u' h' [.int .i64 0,str [],.slice none 0 0,.int .i64 0,.int .i64 0,.int .i64 0,.int .i64 0,str [],.int .i64 0,.int .i64 0,.int .i64 0,str [],.int .i64 0,.int .i64 0] (nL y (.slice ya y.2.1.2.1.length yc)) 100 rfl
 simp only[nL]at hh6 B6
 have B51:=B5.1
 have B61:=B6.1
 obtain⟨bb,hbb⟩:=kJ h'.size
 rw[<-hbb]at B5 B51 B6 B61 hh6
 have st6:=st.zero s6
 have r6:=r'.sZ s6
 have r61:=r6.B.1
 have C6:=C.step st6 (λq=>by omega)
 have C61:=C6.1
 have n6:=n.step st6 (λq=>by omega)
 obtain⟨wa,wc,rfl,-,-⟩:=r'.t.sl
 have hml:((l.take k).map (Oe cs V)).length<=16:=by rw[aQ,aT];omega
 simp(disch:=first|omega|simp only[zz];try omega;done) only[↓reduceIte,go_sem,Zj,e0,e3,e5,e38,e39,e40,af (show(k:Int)<(l.length:Nat) by omega),q0,q1,q2,q3,q4,q5,q6,q7,q8,q9,q10,q11,q12,q13,<-hbb,<-hh5,<-hh6,B5.2.1,B5.2.2.1,B6.at,B6.2.1,r6.B.at,r6.B.2.1,C6.at,C6.2.1]
 refine kD (.inr (.inl ⟨rfl,u6,nb,P,cs,_,V,y.2.2.2.1,rfl,n6,iv.mono st6.ge,hV,λu7 h7 s7=> ?_⟩))
 have r7:=r6.sZ s7
 have B7:=B6.sZ s7
 have C7:=C6.sZ s7
 have B71:=B7.1
 have C71:=C7.1
 have r71:=r7.B.1
 have st7:=st6.zero s7
 refine⟨by simp(disch:=first|omega|simp only[zz];try omega;done) only[↓reduceIte,go_sem,e3,e5,B6.at,B7.at,B7.2.1,C6.at,C7.at,C7.2.1,r6.B.at,r7.B.at,r7.B.2.1],?_⟩
 simp(disch:=first|omega|simp only[zz];try omega;done) only[↓reduceIte,go_sem,e0]
 refine kD (.inr (.inl ⟨rfl,u7,nb,P,cs,_,V,y.2.2.2.2.1,rfl,n6.sZ s7,iv.mono st7.ge,hV,λu8 h8 s8=> ?_⟩))
 have r8:=r7.sZ s8
 have B8:=B7.sZ s8
 have B81:=B8.1
 have r81:=r8.B.1
 have st8:=st7.zero s8
 refine⟨by simp(disch:=first|omega|simp only[zz];try omega;done) only[↓reduceIte,go_sem,e5,B7.at,B8.at,B8.2.1,r7.B.at,r8.B.at,r8.B.2.1],?_⟩
 simp(disch:=first|omega|simp only[zz];try omega;done) only[↓reduceIte,go_sem,e5,r8.B.at,r8.B.2.1]
 refine kK (by simp only[]) r8.t (x:=Oe cs V y) (by rw[FO];rfl) rfl rfl (by omega) (by omega) λa8 n8 c8 u9 h9 o9 s9 hO9=>⟨kY,?_⟩
 obtain⟨C9,r9,st9⟩:=r8.setT o9 s9 hO9
 have C91:=C9.1
 simp(disch:=first|omega|simp only[zz];try omega;done) only[↓reduceIte,go_sem,e5,e40,C9.2.1,C9.2.2.1]
 refine⟨k+1,?_,by omega⟩
 rw[hI]
 have e:(l.take (k+1)).map (Oe cs V)=(l.take k).map (Oe cs V)++[Oe cs V y]:=by rw[aS,hy];simp
 refine⟨u9,.slice a8 n8 c8,by simp [kF],λi a b=> ?_,hlt,by rw[e];exact r9,st8.trans st9 λ_ _ q=>q⟩
 simp only[kF]
 repeat rw[ah (by omega)]
 exact eσ i a b
def FN(c:Xe):Prop:=c.1.2.1.length<=8/\c.2.1.length<=16/\c.2.2.1.length<=16/\c.2.2.2.1.length<=16/\c.2.2.2.2.1.length<=1000000/\(∀a∈c.2.1,a.2.1.length<=8)/\ ∀a∈c.2.2.2.1,a.2.1.length<=8
def abQ(vs:List Value)(h:H)(K:Value->H->Prop):Prop:= ∃(u:U) (nb:Nat) (P:List Nm) (cs:List sU) (c:Xe) (v0 v1 v2 v3 v4:Value),vs=[.pointer (some ⟨nb,0,none⟩),.agg #[str c.1.1,v0,.int .i64 c.1.2.2,v1,v2,v3,v4,.int .i64 c.2.2.2.2.2]]/\Nb u h nb P cs/\nb<h.size/\kM u h v0 c.1.2.1/\kM u h v1 c.2.1/\kM u h v2 c.2.2.1/\kM u h v3 c.2.2.2.1/\kM u h v4 c.2.2.2.2.1/\FN c/\
 ∀u' h' w0 w1 w2 w3 w4,kG S0 u h u' h'->kM u' h' w0 (ny P cs c).1.2->kM u' h' w1 (ny P cs c).2.1->kM u' h' w2 (ny P cs c).2.2.1->kM u' h' w3 (ny P cs c).2.2.2.1->kM u' h' w4 (ny P cs c).2.2.2.2.1->K (.agg #[.int .i64 (ny P cs c).1.1,w0,w1,w2,w3,w4,.int .i64 0]) h'
theorem YG{vs:List Value}{h:H}{K:Value->H->Prop}{KP:List PanicEntry->H->Prop}(hC:abQ vs h K):ma Tryz.prog 6 vs h K KP:=by
 obtain⟨u,nb,P,cs,c,v0,v1,v2,v3,v4,rfl,n,hnb,i0,i1,i2,i3,i4,⟨l0,l1,l2,l3,l4,la,lb⟩,hK⟩:=hC
 refine kP 1106804648545757432507 [((some (.c1 (.ldn 7) (.t 4))),(.o1 (.ldn 7) (.t 4)))] Rb Tryz.func6 (by kernel_rfl) (by apply c0 rfl;repeat' first|apply cS|apply cK|apply cL|apply cX|(apply cC (by decide))|with_reducible exact cV 10 (.sts [(zg 3 (.t 5)),(zh (zf 3 (.t 5))),(zg 4 (.t 9)),(zh (zf 4 (.t 9))),(zg 6 (.t 3)),(zh (zf 6 (.t 3))),(zg 5 (.t 9)),(zk (.ldn 4) (zf 5 (.t 9))),(zg 6 (.t 3)),(zh (zf 6 (.t 3))),(zg 9 (.t 9)),(zk (.ldn 4) (zf 9 (.t 9))),(.set 58 (.o1 (.ldn 4) (zf 9 (.t 9)))),(.set 56 (zl (zf 6 (.t 3)))),(.set 52 (.o1 (.ldn 4) (zf 5 (.t 9)))),(.set 50 (zl (zf 6 (.t 3)))),(.set 47 (zl (zf 4 (.t 9)))),(.set 45 (zl (zf 3 (.t 5)))),(.eff [] (some 53) (.call 26) [(.t 0),(.t 50),(.t 52)] [([],((zf 9 (.t 9)),(some 4))),([],((zf 6 (.t 3)),none)),([],((zf 4 (.t 9)),none)),([],((zf 3 (.t 5)),none))]),(.eff [] (some 59) (.call 26) [(.t 0),(.t 56),(.t 58)] [([],((zf 4 (.t 9)),none)),([],((zf 3 (.t 5)),none))]),(.chk [] (.cb 5 [(0,(1,(.t 47))),(1,(2,(.t 53))),(3,(2,(.t 59)))])),(.eff [] (some 61) (.bsl 34 5 1 [(.int .i64 0),(.bool false),(.int .i64 0),(.bool false),(.int .i64 0)] [0]) [(.o2 (.put 3 2) (.o2 (.put 1 2) (.o2 (.put 0 1) (.c (.agg #[(.int .i64 0),(.bool false),(.int .i64 0),(.bool false),(.int .i64 0)])) (.t 47)) (.t 53)) (.t 59))] [([],((zf 3 (.t 5)),none))]),(.eff [] (some 62) (.app 34 5 40 [(.int .i64 0),(.bool false),(.int .i64 0),(.bool false),(.int .i64 0)]) [(.t 45),(.t 61)] []),(zg 3 (.t 5)),(.eff [] none (.store 1) [(zf 3 (.t 5)),(.t 62)] [])]) (by kernel_rfl)|(conv=>lhs;cbv;try simp only[mF])) ?_
 obtain⟨a0,b0,rfl,-,-⟩:=i0.sl
 obtain⟨a1,b1,rfl,-,-⟩:=i1.sl
 obtain⟨a2,b2,rfl,-,-⟩:=i2.sl
 obtain⟨a3,b3,rfl,-,-⟩:=i3.sl
 obtain⟨a4,b4,rfl,-,-⟩:=i4.sl
 obtain⟨h1,u1,hh1,zh1,p1,C1⟩:=kL u h [str c.1.1,.slice a0 c.1.2.1.length b0,.int .i64 c.1.2.2,.slice a1 c.2.1.length b1,.slice a2 c.2.2.1.length b2,.slice a3 c.2.2.2.1.length b3,.slice a4 c.2.2.2.2.1.length b4,.int .i64 c.2.2.2.2.2] 56
 obtain⟨h2,u2,hh2,zh2,p2,R2⟩:=kL u1 h1 [.int .i64 0,.slice none 0 0,.slice none 0 0,.slice none 0 0,.slice none 0 0,.slice none 0 0,.int .i64 0] 63
 obtain⟨cb,hcb⟩:=kJ h.size
 obtain⟨rb,hrb⟩:=kJ h1.size
 rw[<-hcb]at C1
 rw[<-hrb]at R2
 have C2:=C1.sZ p2
 have st2:=p1.tZ p2
 have C21:=C2.1
 have g2:=st2.ge
 simp(disch:=first|omega|simp only[zz];try omega;done) only[↓reduceIte,go_sem,<-hh1,<-hcb,<-hh2,<-hrb,C2.at,C2.2.1]
 refine kD (.inl ⟨rfl,u2,nb,P,cs,_,_,c.2.2.2.2.1,c.1,rfl,n.sZ st2,i4.mono g2,l4,i0.mono g2,l0,λu3 h3 x s3 j0=>⟨kY,?_⟩⟩)
 obtain⟨xa,xc,rfl,-,-⟩:=j0.sl
 obtain⟨h4',h4,u4,hh4',hh4,O4',O4,s4,hz4⟩:=kZ u3 h3 [.int .i64 0,.slice none 0 0,.slice none 0 0,.slice none 0 0,.slice none 0 0,.slice none 0 0,.int .i64 0] [.int .i64 (oP P cs c.2.2.2.2.1 c.1).1,.slice xa (oP P cs c.2.2.2.2.1 c.1).2.length xc,.slice none 0 0,.slice none 0 0,.slice none 0 0,.slice none 0 0,.int .i64 0] 63 rfl
 obtain⟨ob,hob⟩:=kJ h3.size
 rw[<-hob]at O4' O4 hh4
 have O41:=O4.1
 have O4'1:=O4'.1
 have st4:=(st2.tZ s3).tZ s4
 have C4:=(C2.sZ s3).sZ s4
 have R4:=(R2.sZ s3).sZ s4
 have n4:=n.sZ st4
 have g4:=st4.ge
 have z3:=(st2.tZ s3).ge.sz
 have z23:=s3.ge.sz
 have hcb':cb<ob:=by omega
 have hrb':rb<ob:=by omega
 have hnb':nb<ob:=by omega
 have hob0:h.size<=ob:=by omega
 have C41:=C4.1
 have r4:Ru u4 h4 ob (.int .i64 (oP P cs c.2.2.2.2.1 c.1).1) (.slice xa (oP P cs c.2.2.2.2.1 c.1).2.length xc) (.slice none 0 0) (.int .i64 0) (.slice none 0 0) (.slice none 0 0) (.slice none 0 0) [] [] []:=
  ⟨O4,.nil _ _ _,.nil _ _ _,.nil _ _ _,Ap.nil (Ap.nil (Ap.nil (L:=[]) ⟨λi j v w q=>by simp at q,λv q=>(by cases q),λv q=>(by cases q),λb q=>by rw[bJ.1 q];exact O41⟩))⟩
 simp(disch:=first|omega|simp only[zz];try omega;done) only[↓reduceIte,go_sem,<-hob,<-hh4',<-hh4,O4'.2.1,O4'.2.2.1,C4.at,C4.2.1]
 refine adY r4 C4 n4 (i4.mono g4) l4 (i1.mono g4) l1 la hcb' hnb' (by simp [kF]) (by simp [kF]) (by simp [kF]) (by simp [kF]) (by simp [kF]) (by simp [kF]) λσ5 u5 h5 w5 hσ5 r5 st5=> ?_
 have g50:σ5 0= .pointer (some ⟨nb,0,none⟩):=(hσ5 0 (by omega) (by omega)).trans (by simp [kF])
 have g53:σ5 3= .pointer (some ⟨cb,0,none⟩):=(hσ5 3 (by omega) (by omega)).trans (by simp [kF])
 have g54:σ5 4= .pointer (some ⟨rb,0,none⟩):=(hσ5 4 (by omega) (by omega)).trans (by simp [kF])
 have g55:σ5 5= .pointer (some ⟨ob,0,none⟩):=(hσ5 5 (by omega) (by omega)).trans (by simp [kF])
 have C5:=C4.step st5 (λq=>by omega)
 have n5:=n4.step st5 (λq=>by omega)
 have C51:=C5.1
 have gg5:=g4.trans st5.ge
 simp(disch:=first|omega|simp only[zz];try omega;done) only[↓reduceIte,go_sem,g53,C5.at,C5.2.1]
 refine adX r5 C5 n5 (i4.mono gg5) l4 (i2.mono gg5) l2 hcb' hnb' (by simp [kF,g50]) (by simp [kF,g53]) (by simp [kF,g55]) (by simp [kF]) (by simp [kF]) (by simp [kF]) λσ6 u6 h6 w6 hσ6 r6 st6=> ?_
 have g60:σ6 0= .pointer (some ⟨nb,0,none⟩):=(hσ6 0 (by omega) (by omega)).trans (by simp [kF,g50])
 have g63:σ6 3= .pointer (some ⟨cb,0,none⟩):=(hσ6 3 (by omega) (by omega)).trans (by simp [kF,g53])
 have g64:σ6 4= .pointer (some ⟨rb,0,none⟩):=(hσ6 4 (by omega) (by omega)).trans (by simp [kF,g54])
 have g65:σ6 5= .pointer (some ⟨ob,0,none⟩):=(hσ6 5 (by omega) (by omega)).trans (by simp [kF,g55])
 have C6:=C5.step st6 (λq=>by omega)
 have n6:=n5.step st6 (λq=>by omega)
 have C61:=C6.1
 have gg6:=gg5.trans st6.ge
 simp(disch:=first|omega|simp only[zz];try omega;done) only[↓reduceIte,go_sem,g63,C6.at,C6.2.1]
 refine adZ r6 C6 n6 (i4.mono gg6) l4 (i3.mono gg6) l3 lb hcb' hnb' (by simp [kF,g60]) (by simp [kF,g63]) (by simp [kF,g65]) (by simp [kF]) (by simp [kF]) (by simp [kF]) λσ7 u7 h7 w7 hσ7 r7 st7=> ?_
 have g73:σ7 3= .pointer (some ⟨cb,0,none⟩):=(hσ7 3 (by omega) (by omega)).trans (by simp [kF,g63])
 have g74:σ7 4= .pointer (some ⟨rb,0,none⟩):=(hσ7 4 (by omega) (by omega)).trans (by simp [kF,g64])
 have g75:σ7 5= .pointer (some ⟨ob,0,none⟩):=(hσ7 5 (by omega) (by omega)).trans (by simp [kF,g65])
 have C7:=C6.step st7 (λq=>by omega)
 have C71:=C7.1
 have gg7:=gg6.trans st7.ge
 have st47:=((st4.own st5 λb q=>aY hob0 q).own st6 λb q=>aY hob0 q).own st7 λb q=>aY hob0 q
 have R7:=((R4.step st5 λq=>by omega).step st6 λq=>by omega).step st7 λq=>by omega
 simp(disch:=first|omega|simp only[zz];try omega;done) only[↓reduceIte,go_sem,g73,C7.at,C7.2.1]
 refine kD (.inr (.inr ⟨rfl,u7,_,c.2.2.2.2.1,rfl,i4.mono gg7,l4,λu8 h8 x8 s8 i8=>⟨kY,?_⟩⟩))
 obtain⟨xa8,xc8,rfl,-,-⟩:=i8.sl
 have r8:=r7.sZ s8
 have R8:=R7.sZ s8
 have O8:=r8.B
 have O81:=O8.1
 have s9:=kG.set (S:=λb=>b=ob) u8 h8 (b:=ob) (o:=5) (.slice xa8 (wD c.2.2.2.2.1).length xc8) rfl (by rw[O8.2.2.2.1];exact az _)
 have O9:=O8.set (i:=5) (v:= .slice xa8 (wD c.2.2.2.2.1).length xc8) (by simp)
 simp only[bP,cZ]at O9
 obtain⟨h9,hh9⟩:=kJ (lh h8 ob 5 (.slice xa8 (wD c.2.2.2.2.1).length xc8))
 rw[<-hh9]at s9 O9
 have R9:=R8.step s9 (λq=>by omega)
 have O91:=O9.1
 have st9:=(st47.tZ s8).own s9 λb q=>by rw[q];exact hob0
 have sR:=kG.sets (S:=λb=>b=rb) u8 h9 (b:=rb) (o:=0) [.int .i64 (oP P cs c.2.2.2.2.1 c.1).1,.slice xa (oP P cs c.2.2.2.2.1 c.1).2.length xc,w5,w6,w7,.slice xa8 (wD c.2.2.2.2.1).length xc8,.int .i64 0] rfl (by rw[R9.2.2.2.1];exact az _) (by rw[R9.2.1];exact aH _)
 have RH:=R9.sets (l:=[.int .i64 (oP P cs c.2.2.2.2.1 c.1).1,.slice xa (oP P cs c.2.2.2.2.1 c.1).2.length xc,w5,w6,w7,.slice xa8 (wD c.2.2.2.2.1).length xc8,.int .i64 0]) rfl
 obtain⟨h10,hh10⟩:=kJ (kU h9 rb 0 [.int .i64 (oP P cs c.2.2.2.2.1 c.1).1,.slice xa (oP P cs c.2.2.2.2.1 c.1).2.length xc,w5,w6,w7,.slice xa8 (wD c.2.2.2.2.1).length xc8,.int .i64 0])
 rw[<-hh10]at sR RH
 have RH1:=RH.1
 have g89:=s9.ge.trans sR.ge
 have hK:=hK u8 h10 (.slice xa (oP P cs c.2.2.2.2.1 c.1).2.length xc) w5 w6 w7 (.slice xa8 (wD c.2.2.2.2.1).length xc8) (st9.own sR λb q=>by rw[q];omega) (j0.mono (((((s4.ge.trans st5.ge).trans st6.ge).trans st7.ge).trans s8.ge).trans g89)) (r8.p.iZ.mono g89) (r8.t.iZ.mono g89) (r8.n.iZ.mono g89) (i8.mono g89)
 simp(disch:=first|omega|simp only[zz];try omega;done) only[↓reduceIte,go_sem,g74,g75,O8.2.1,O8.2.2.1,<-hh9,O9.at,O9.2.1,R9.2.1,R9.2.2.1,r8.p.okc,r8.t.okc,r8.n.okc,<-hh10,RH.at,RH.2.1]
 exact hK
variable {vs:List Value} {h:H} {K:Value->H->Prop} {KP:List PanicEntry->H->Prop}
def Ip(vs:List Value)(h:H)(K:Value->H->Prop):Prop:= ∃(u:U) (p:pK) (v:Value),vs=[.agg #[.int .i64 p.1,v]]/\kM u h v p.2/\p.2.length<=1000000/\ ∀u' h' w,kG S0 u h u' h'->kM u' h' w p.2->K (.agg #[.int .i64 p.1,w]) h'
theorem EI(hC:Ip vs h K):ma Tryz.prog 68 vs h K KP:=by
 obtain⟨u,p,v,rfl,iv,hp,hK⟩:=hC
 refine kP 7 [((some (.c1 (.ldn 2) (.t 2))),(.o1 (.ldn 2) (.t 2)))] (G:=(λ_ _ _ _ _=>False)) (λ_ _ _ _ _ h=>h.elim) Tryz.func68 (by kernel_rfl) (by conv=>lhs;cbv;try simp only[mF]) ?_
 obtain⟨va,vc,rfl,-,-⟩:=iv.sl
 obtain⟨h1,u1,hh1,zh1,p1,A1⟩:=kL u h [.int .i64 p.1,.slice va p.2.length vc] 59
 obtain⟨h2,u2,hh2,zh2,p2,R2⟩:=kL u1 h1 [.int .i64 0,.slice none 0 0] 59
 obtain⟨ab,hab⟩:=kJ h.size
 obtain⟨rb,hrb⟩:=kJ h1.size
 rw[<-hab]at A1
 rw[<-hrb]at R2
 have A2:=A1.sZ p2
 have st2:=p1.tZ p2
 have A21:=A2.1
 simp(disch:=first|omega|simp only[zz];try omega;done) only[↓reduceIte,go_sem,<-hh1,<-hab,<-hh2,<-hrb,A2.at,A2.2.1]
 refine qY (k:=h.size) (.nil _ _ _) (iv.mono st2.ge) rfl rfl (by omega) (by simp only[bg];omega) λa3 n3 c3 u3 h3 o3 s3=> ?_
 rw[bI]at o3
 have A3:=A2.step s3 (xE _)
 have R3:=R2.step s3 (xE _)
 have A31:=A3.1
 refine⟨by simp(disch:=first|omega|simp only[zz];try omega;done) only[↓reduceIte,go_sem,A2.at,A3.at,A3.2.1],?_⟩
 have st3:=st2.own s3 λb q=>absurd q (xE b)
 have sR:=kG.sets (S:=λb=>b=rb) u3 h3 (b:=rb) (o:=0) [.int .i64 p.1,.slice a3 n3 c3] rfl (by rw[R3.2.2.2.1];exact az _) (by rw[R3.2.1];exact aH _)
 have RH:=R3.sets (l:=[.int .i64 p.1,.slice a3 n3 c3]) rfl
 obtain⟨h9,hh9⟩:=kJ (kU h3 rb 0 [.int .i64 p.1,.slice a3 n3 c3])
 rw[<-hh9]at sR RH
 have RH1:=RH.1
 have hK:=hK u3 h9 _ (st3.own sR λb q=>by rw[q];omega) (o3.iZ.mono sR.ge)
 simp(disch:=first|omega|simp only[zz];try omega;done) only[↓reduceIte,go_sem,R3.2.1,R3.2.2.1,<-hh9,RH.at,RH.2.1]
 exact hK
def La(vs:List Value)(h:H)(K:Value->H->Prop):Prop:= ∃(u:U) (l:List pK) (v:Value),vs=[v]/\kM u h v l/\l.length<=1000000/\(∀p∈l,p.2.length<=1000000)/\ ∀u' h' w,kG S0 u h u' h'->kM u' h' w l->K w h'
def QY:mG:=λf vs h K _=>f=68/\Ip vs h K
theorem Iq:nz Tryz.prog QY:=qd EI
theorem Ny(hC:La vs h K):ma Tryz.prog 69 vs h K KP:=by
 obtain⟨u,l,v,rfl,iv,hl,hp,hK⟩:=hC
 refine kP 1005 [(none,(.t 2))] Iq Tryz.func69 (by kernel_rfl) (by conv=>lhs;cbv;try simp only[mF]) ?_
 obtain⟨va,vc,rfl,-,-⟩:=iv.sl
 simp(disch:=first|omega|simp only[zz];try omega;done) only[↓reduceIte,go_sem]
 obtain⟨I,hI⟩:=kJ (α:=Nat->lm->H->Prop) λk σ h'=> ∃(u':U) (x:Value),σ 3=x/\σ 6= .slice va l.length vc/\σ 7= .int .i64 (l.length:Nat)/\σ 8= .int .i64 k/\k<=l.length/\kG S0 u h u' h'/\mr h.size u' h' x (l.take k)
 refine kH I (λj=>l.length - j) 0 (by rw[hI];exact⟨u,.slice none 0 0,by simp [kF],by simp [kF],by simp [kF],by simp [kF],by omega,.refl _ _ _,by simpa using mr.nil _ _ _⟩) ?_
 intro k σ h' hi
 rw[hI]at hi
 obtain⟨u',x,e3,e6,e7,e8,hk,st,ow⟩:=hi
 obtain⟨xa,xc,rfl,-,-⟩:=ow.sl
 by_cases hlt:k<l.length
 case neg=>
  simp(disch:=first|omega|simp only[zz];try omega;done) only[↓reduceIte,go_sem,e3,e7,e8,au (show¬(k:Int)<(l.length:Nat) by omega)]
  rw[aK (by omega)]at ow ⊢
  exact hK _ _ _ st ow.iZ
 obtain⟨y,hy⟩:=uu hlt
 obtain⟨pb,po,rfl,hpb,hpu,hpz,hpr⟩:=(iv.mono st.ge).row k y hy
 rw[tV]at hpr
 obtain⟨yv,hpr,iyv⟩:=hpr
 obtain⟨ya,yc,rfl,-,-⟩:=iyv.sl
 simp only[Bu,qX,aG,aP]at hpr hpu hpz
 obtain⟨p0,p1'⟩:=hpr
 obtain⟨h5',h6,u6,hh5,hh6,B5,B6,s6,hz6⟩:=kZ u' h' [.int .i64 0,.slice none 0 0] [.int .i64 y.1,.slice ya y.2.length yc] 59 rfl
 have B51:=B5.1
 have B61:=B6.1
 obtain⟨bb,hbb⟩:=kJ h'.size
 rw[<-hbb]at B5 B51 B6 B61 hh6
 have hml:(l.take k).length<=1000000:=by rw[aT];omega
 simp(disch:=first|omega|simp only[zz];try omega;done) only[↓reduceIte,go_sem,e6,e7,e8,af (show(k:Int)<(l.length:Nat) by omega),p0,p1',<-hbb,<-hh5,<-hh6,B5.2.1,B5.2.2.1,B6.at,B6.2.1]
 refine kD ⟨rfl,u6,y,_,rfl,iyv.mono s6.ge,hp y (aI hy),λu7 h7 w s7 i7=>⟨kY,?_⟩⟩
 have st7:=(st.tZ s6).tZ s7
 have hz:=st7.ge.sz
 obtain⟨wa,wc,rfl,-,-⟩:=i7.sl
 simp(disch:=first|omega|simp only[zz];try omega;done) only[↓reduceIte,go_sem,e3]
 refine kK (by simp only[]) ((ow.sZ s6).sZ s7) (x:=y) (by rw[tV];exact⟨_,rfl,i7⟩) rfl rfl hz (by omega) λa8 n8 c8 u8 h8 o8 s8 hO8=>⟨kY,?_⟩
 simp(disch:=first|omega|simp only[zz];try omega;done) only[↓reduceIte,go_sem,e8]
 refine⟨k+1,?_,by omega⟩
 rw[hI]
 exact⟨u8,.slice a8 n8 c8,by simp [kF],by simp [kF,e6],by simp [kF,e7],by simp [kF],hlt,st7.own s8 λb q=>ow.ge q,by rw[aS,hy];exact o8⟩
def xV(r:qW):Prop:=r.1.2.length<=1000000/\r.2.1.length<=1000000/\r.2.2.1.length<=1000000/\r.2.2.2.1.length<=1000000/\r.2.2.2.2.1.length<=1000000/\(∀p∈r.2.1,p.2.length<=1000000)/\ ∀p∈r.2.2.2.1,p.2.length<=1000000
def Lb(vs:List Value)(h:H)(K:Value->H->Prop):Prop:= ∃(u:U) (r:qW) (v0 v1 v2 v3 v4:Value),vs=[.agg #[.int .i64 r.1.1,v0,v1,v2,v3,v4,.int .i64 r.2.2.2.2.2]]/\kM u h v0 r.1.2/\kM u h v1 r.2.1/\kM u h v2 r.2.2.1/\kM u h v3 r.2.2.2.1/\kM u h v4 r.2.2.2.2.1/\xV r/\
 ∀u' h' w0 w1 w2 w3 w4,kG S0 u h u' h'->kM u' h' w0 r.1.2->kM u' h' w1 r.2.1->kM u' h' w2 r.2.2.1->kM u' h' w3 r.2.2.2.1->kM u' h' w4 r.2.2.2.2.1->K (.agg #[.int .i64 r.1.1,w0,w1,w2,w3,w4,.int .i64 r.2.2.2.2.2]) h'
def QZ:mG:=λf vs h K _=>(f=68/\Ip vs h K)\/(f=69/\La vs h K)
theorem Ir:nz Tryz.prog QZ:=mK EI (qd Ny)
theorem tT{u u':U}{h hX:H}{b i:Nat}{cs:List Value}(v:Value)(st:kG S0 u h u' hX)(B:kV u' hX b cs)(hb:h.size<=b)(hi:i<cs.length): ∃hY,hY=lh hX b i v/\kG S0 u h u' hY/\kV u' hY b (cs.set i v)/\Ge u' hX u' hY/\b<hY.size:=by
 have s:=kG.set (S:=λx=>x=b) u' hX (b:=b) (o:=i) v rfl (by rw[B.2.2.2.1];exact az _)
 have B':=B.set (v:=v) hi
 exact⟨_,rfl,st.own s λx q=>by rw[q];exact hb,B',s.ge,B'.1⟩
theorem Nz(hC:Lb vs h K):ma Tryz.prog 28 vs h K KP:=by
 obtain⟨u,r,v0,v1,v2,v3,v4,rfl,i0,i1,i2,i3,i4,⟨l0,l1,l2,l3,l4,la,lb⟩,hK⟩:=hC
 refine kP 7 [((some (.c1 (.ldn 7) (.t 2))),(.o1 (.ldn 7) (.t 2)))] Ir Tryz.func28 (by kernel_rfl) (by conv=>lhs;cbv;try simp only[mF]) ?_
 obtain⟨a0,b0,rfl,-,-⟩:=i0.sl
 obtain⟨a1,b1,rfl,-,-⟩:=i1.sl
 obtain⟨a2,b2,rfl,-,-⟩:=i2.sl
 obtain⟨a3,b3,rfl,-,-⟩:=i3.sl
 obtain⟨a4,b4,rfl,-,-⟩:=i4.sl
 obtain⟨h1,u1,hh1,zh1,p1,C1⟩:=kL u h [.int .i64 r.1.1,.slice a0 r.1.2.length b0,.slice a1 r.2.1.length b1,.slice a2 r.2.2.1.length b2,.slice a3 r.2.2.2.1.length b3,.slice a4 r.2.2.2.2.1.length b4,.int .i64 r.2.2.2.2.2] 63
 obtain⟨h2,u2,hh2,zh2,p2,R2⟩:=kL u1 h1 [.int .i64 0,.slice none 0 0,.slice none 0 0,.slice none 0 0,.slice none 0 0,.slice none 0 0,.int .i64 0] 63
 obtain⟨cb,hcb⟩:=kJ h.size
 obtain⟨rb,hrb⟩:=kJ h1.size
 rw[<-hcb]at C1
 rw[<-hrb]at R2
 have C2:=C1.sZ p2
 have st2:=p1.tZ p2
 have C21:=C2.1
 have hcb0:h.size<=cb:=by omega
 have hrb0:h.size<=rb:=by omega
 have hne:rb≠cb:=by omega
 simp(disch:=first|omega|simp only[zz];try omega;done) only[↓reduceIte,go_sem,<-hh1,<-hcb,<-hh2,<-hrb,C2.at,C2.2.1]
 refine kD (.inl ⟨rfl,u2,r.1,_,rfl,i0.mono st2.ge,l0,λu3 h3 w0 s3 j0=>⟨kY,?_⟩⟩)
 obtain⟨wa0,wb0,rfl,-,-⟩:=j0.sl
 have C3:=C2.sZ s3
 have R3:=R2.sZ s3
 have st3:=st2.tZ s3
 have s4:=kG.sets (S:=λb=>b=cb) u3 h3 (b:=cb) (o:=0) [.int .i64 r.1.1,.slice wa0 r.1.2.length wb0] rfl (by rw[C3.2.2.2.1];exact az _) (by rw[C3.2.1];simp)
 have C4:kV u3 (kU h3 cb 0 [.int .i64 r.1.1,.slice wa0 r.1.2.length wb0]) cb [.int .i64 r.1.1,.slice wa0 r.1.2.length wb0,.slice a1 r.2.1.length b1,.slice a2 r.2.2.1.length b2,.slice a3 r.2.2.2.1.length b3,.slice a4 r.2.2.2.2.1.length b4,.int .i64 r.2.2.2.2.2]:=
  (C3.set (i:=0) (v:= .int .i64 r.1.1) (by simp)).set (i:=1) (v:= .slice wa0 r.1.2.length wb0) (by simp)
 obtain⟨h4,hh4⟩:=kJ (kU h3 cb 0 [.int .i64 r.1.1,.slice wa0 r.1.2.length wb0])
 rw[<-hh4]at s4 C4
 have R4:=R3.step s4 hne
 have st4:=st3.own s4 λb q=>by rw[q];exact hcb0
 have C31:=C3.1
 have C41:=C4.1
 have j04:=j0.mono s4.ge
 simp(disch:=first|omega|simp only[zz];try omega;done) only[↓reduceIte,go_sem,C3.2.1,C3.2.2.1,<-hh4,C4.at,C4.2.1]
 refine kD (.inr ⟨rfl,u3,r.2.1,_,rfl,i1.mono st4.ge,l1,la,λu5 h5 w1 s5 j1=> ?_⟩)
 have C5:=C4.sZ s5
 have C51:=C5.1
 have st5:=st4.tZ s5
 refine⟨by simp(disch:=first|omega|simp only[zz];try omega;done) only[↓reduceIte,go_sem,C4.at,C5.at,C5.2.1],?_⟩
 simp(disch:=first|omega|simp only[zz];try omega;done) only[↓reduceIte,go_sem,Vs]
 refine kD (.inr ⟨rfl,u5,r.2.2.2.1,_,rfl,i3.mono st5.ge,l3,lb,λu6 h6 w3 s6 j3=>⟨kY,?_⟩⟩)
 obtain⟨wa1,wb1,rfl,-,-⟩:=j1.sl
 obtain⟨wa3,wb3,rfl,-,-⟩:=j3.sl
 have C6:=C5.sZ s6
 have R6:=(R4.sZ s5).sZ s6
 have st6:=st5.tZ s6
 obtain⟨h7,hh7,st7,C7,g7,C71⟩:=tT (i:=2) (.slice wa1 r.2.1.length wb1) st6 C6 hcb0 (by simp)
 obtain⟨h8,hh8,st8,C8,g8,C81⟩:=tT (i:=4) (.slice wa3 r.2.2.2.1.length wb3) st7 C7 hcb0 (by simp)
 simp only[bP,cZ]at C7 C8
 have R8:kV u6 h8 rb [.int .i64 0,.slice none 0 0,.slice none 0 0,.slice none 0 0,.slice none 0 0,.slice none 0 0,.int .i64 0]:=by
  rw[hh8,hh7]
  exact(R6.step (kG.set (S:=λx=>x=cb) u6 h6 _ rfl (by rw[C6.2.2.2.1];exact az _)) hne).step (kG.set (S:=λx=>x=cb) u6 _ _ rfl (by rw[C6.2.2.2.1];exact az _)) hne
 have C61:=C6.1
 have z8:=st8.ge.sz
 have j18:=(j1.mono s6.ge).mono (g7.trans g8)
 have j38:=j3.mono (g7.trans g8)
 have j08:=((j04.mono s5.ge).mono s6.ge).mono (g7.trans g8)
 simp(disch:=first|omega|simp only[zz];try omega;done) only[↓reduceIte,go_sem,C6.2.1,C6.2.2.1,<-hh7,C7.2.1,C7.2.2.1,<-hh8,C8.at,C8.2.1]
 refine qY (k:=h.size) (.nil _ _ _) (i2.mono st8.ge) rfl rfl z8 (by simp only[bg];omega) λa9 n9 c9 u9 h9 o9 s9=>⟨kY,?_⟩
 rw[bI]at o9
 have C9:=C8.step s9 (xE _)
 have R9:=R8.step s9 (xE _)
 have st9:=st8.own s9 λb q=>absurd q (xE b)
 obtain⟨h10,hh10,st10,C10,g10,C101⟩:=tT (i:=3) (.slice a9 n9 c9) st9 C9 hcb0 (by simp)
 simp only[bP,cZ]at C10
 have R10:kV u9 h10 rb [.int .i64 0,.slice none 0 0,.slice none 0 0,.slice none 0 0,.slice none 0 0,.slice none 0 0,.int .i64 0]:=by
  rw[hh10]
  exact R9.step (kG.set (S:=λx=>x=cb) u9 _ _ rfl (by rw[C9.2.2.2.1];exact az _)) hne
 have C91:=C9.1
 have z10:=st10.ge.sz
 simp(disch:=first|omega|simp only[zz];try omega;done) only[↓reduceIte,go_sem,C9.2.1,C9.2.2.1,<-hh10,C10.at,C10.2.1]
 refine qY (k:=h.size) (.nil _ _ _) (i4.mono st10.ge) rfl rfl z10 (by simp only[bg];omega) λa11 n11 c11 u11 h11 o11 s11=>⟨kY,?_⟩
 rw[bI]at o11
 have C11:=C10.step s11 (xE _)
 have R11:=R10.step s11 (xE _)
 have st11:=st10.own s11 λb q=>absurd q (xE b)
 obtain⟨h12,hh12,st12,C12,g12,C121⟩:=tT (i:=5) (.slice a11 n11 c11) st11 C11 hcb0 (by simp)
 simp only[bP,cZ]at C12
 have R12:kV u11 h12 rb [.int .i64 0,.slice none 0 0,.slice none 0 0,.slice none 0 0,.slice none 0 0,.slice none 0 0,.int .i64 0]:=by
  rw[hh12]
  exact R11.step (kG.set (S:=λx=>x=cb) u11 _ _ rfl (by rw[C11.2.2.2.1];exact az _)) hne
 have C111:=C11.1
 have sR:=kG.sets (S:=λb=>b=rb) u11 h12 (b:=rb) (o:=0) [.int .i64 r.1.1,.slice wa0 r.1.2.length wb0,.slice wa1 r.2.1.length wb1,.slice a9 n9 c9,.slice wa3 r.2.2.2.1.length wb3,.slice a11 n11 c11,.int .i64 r.2.2.2.2.2] rfl (by rw[R12.2.2.2.1];exact az _) (by rw[R12.2.1];exact aH _)
 have RH:=R12.sets (l:=[.int .i64 r.1.1,.slice wa0 r.1.2.length wb0,.slice wa1 r.2.1.length wb1,.slice a9 n9 c9,.slice wa3 r.2.2.2.1.length wb3,.slice a11 n11 c11,.int .i64 r.2.2.2.2.2]) rfl
 obtain⟨h13,hh13⟩:=kJ (kU h12 rb 0 [.int .i64 r.1.1,.slice wa0 r.1.2.length wb0,.slice wa1 r.2.1.length wb1,.slice a9 n9 c9,.slice wa3 r.2.2.2.1.length wb3,.slice a11 n11 c11,.int .i64 r.2.2.2.2.2])
 rw[<-hh13]at sR RH
 have RH1:=RH.1
 have g8_:=((s9.ge.trans g10).trans s11.ge).trans (g12.trans sR.ge)
 have hK:=hK u11 h13 (.slice wa0 r.1.2.length wb0) (.slice wa1 r.2.1.length wb1) (.slice a9 n9 c9) (.slice wa3 r.2.2.2.1.length wb3) (.slice a11 n11 c11) (st12.own sR λb q=>by rw[q];exact hrb0) (j08.mono g8_) (j18.mono g8_) (o9.iZ.mono ((g10.trans s11.ge).trans (g12.trans sR.ge))) (j38.mono g8_) (o11.iZ.mono (g12.trans sR.ge))
 simp(disch:=first|omega|simp only[zz];try omega;done) only[↓reduceIte,go_sem,C11.2.1,C11.2.2.1,<-hh12,C12.at,C12.2.1,R12.2.1,R12.2.2.1,<-hh13,RH.at,RH.2.1]
 exact hK
def Iu(vs:List Value)(h:H)(K:Value->H->Prop):Prop:= ∃(u:U) (l:List qW) (v:Value),vs=[v]/\kM u h v l/\l.length<=1000000/\(∀r∈l,xV r)/\ ∀u' h' w,kG S0 u h u' h'->kM u' h' w l->K w h'
def NA:mG:=λf vs h K _=>f=28/\Lb vs h K
theorem Fg:nz Tryz.prog NA:=qd Nz
theorem JC(hC:Iu vs h K):ma Tryz.prog 7 vs h K KP:=by
 obtain⟨u,l,v,rfl,iv,hl,hp,hK⟩:=hC
 refine kP 1005 [(none,(.t 2))] Fg Tryz.func7 (by kernel_rfl) (by conv=>lhs;cbv;try simp only[mF]) ?_
 obtain⟨va,vc,rfl,-,-⟩:=iv.sl
 simp(disch:=first|omega|simp only[zz];try omega;done) only[↓reduceIte,go_sem]
 obtain⟨I,hI⟩:=kJ (α:=Nat->lm->H->Prop) λk σ h'=> ∃(u':U) (x:Value),σ 3=x/\σ 6= .slice va l.length vc/\σ 7= .int .i64 (l.length:Nat)/\σ 8= .int .i64 k/\k<=l.length/\kG S0 u h u' h'/\mr h.size u' h' x (l.take k)
 refine kH I (λj=>l.length - j) 0 (by rw[hI];exact⟨u,.slice none 0 0,by simp [kF],by simp [kF],by simp [kF],by simp [kF],by omega,.refl _ _ _,by simpa using mr.nil _ _ _⟩) ?_
 intro k σ h' hi
 rw[hI]at hi
 obtain⟨u',x,e3,e6,e7,e8,hk,st,ow⟩:=hi
 obtain⟨xa,xc,rfl,-,-⟩:=ow.sl
 by_cases hlt:k<l.length
 case neg=>
  simp(disch:=first|omega|simp only[zz];try omega;done) only[↓reduceIte,go_sem,e3,e7,e8,au (show¬(k:Int)<(l.length:Nat) by omega)]
  rw[aK (by omega)]at ow ⊢
  exact hK _ _ _ st ow.iZ
 obtain⟨y,hy⟩:=uu hlt
 obtain⟨pb,po,rfl,hpb,hpu,hpz,hpr⟩:=(iv.mono st.ge).row k y hy
 rw[xW]at hpr
 obtain⟨v0,v1,v2,v3,v4,hpr,i0,i1,i2,i3,i4⟩:=hpr
 simp only[Iy,JP,aG,aP]at hpr hpu hpz
 obtain⟨q0,q1,q2,q3,q4,q5,q6⟩:=hpr
 obtain⟨h5',h6,u6,hh5,hh6,B5,B6,s6,hz6⟩:=kZ u' h' [.int .i64 0,.slice none 0 0,.slice none 0 0,.slice none 0 0,.slice none 0 0,.slice none 0 0,.int .i64 0] [.int .i64 y.1.1,v0,v1,v2,v3,v4,.int .i64 y.2.2.2.2.2] 63 rfl
 have B51:=B5.1
 have B61:=B6.1
 obtain⟨bb,hbb⟩:=kJ h'.size
 rw[<-hbb]at B5 B51 B6 B61 hh6
 have hml:(l.take k).length<=1000000:=by rw[aT];omega
 have g6:=s6.ge
 simp(disch:=first|omega|simp only[zz];try omega;done) only[↓reduceIte,go_sem,e6,e7,e8,af (show(k:Int)<(l.length:Nat) by omega),q0,q1,q2,q3,q4,q5,q6,i0.okc,i1.okc,i2.okc,i3.okc,i4.okc,<-hbb,<-hh5,<-hh6,B5.2.1,B5.2.2.1,B6.at,B6.2.1]
 refine kD ⟨rfl,u6,y,_,_,_,_,_,rfl,i0.mono g6,i1.mono g6,i2.mono g6,i3.mono g6,i4.mono g6,hp y (aI hy),λu7 h7 w0 w1 w2 w3 w4 s7 j0 j1 j2 j3 j4=>⟨kY,?_⟩⟩
 have st7:=(st.tZ s6).tZ s7
 have hz:=st7.ge.sz
 obtain⟨wa0,wc0,rfl,-,-⟩:=j0.sl
 obtain⟨wa1,wc1,rfl,-,-⟩:=j1.sl
 obtain⟨wa2,wc2,rfl,-,-⟩:=j2.sl
 obtain⟨wa3,wc3,rfl,-,-⟩:=j3.sl
 obtain⟨wa4,wc4,rfl,-,-⟩:=j4.sl
 simp(disch:=first|omega|simp only[zz];try omega;done) only[↓reduceIte,go_sem,e3]
 refine kK (by simp only[]) ((ow.sZ s6).sZ s7) (x:=y) (by rw[xW];exact⟨_,_,_,_,_,rfl,j0,j1,j2,j3,j4⟩) rfl rfl hz (by omega) λa8 n8 c8 u8 h8 o8 s8 hO8=>⟨kY,?_⟩
 simp(disch:=first|omega|simp only[zz];try omega;done) only[↓reduceIte,go_sem,e8]
 refine⟨k+1,?_,by omega⟩
 rw[hI]
 exact⟨u8,.slice a8 n8 c8,by simp [kF],by simp [kF,e6],by simp [kF,e7],by simp [kF],hlt,st7.own s8 λb q=>ow.ge q,by rw[aS,hy];exact o8⟩
end Go.Proofs.Z
namespace Go.Proofs.Z
open Go Go.Ev Edict
variable {vs:List Value} {h:H} {K:Value->H->Prop} {KP:List PanicEntry->H->Prop}
def DU(vs:List Value)(h:H)(K:Value->H->Prop):Prop:= ∃(u:U) (p q:pK) (v w:Value),vs=[.agg #[.int .i64 p.1,v],.agg #[.int .i64 q.1,w]]/\kM u h v p.2/\kM u h w q.2/\p.2.length<=1000000/\ ∀(b:Bool) u' h',(b=true↔p=q)->kG S0 u h u' h'->K (.bool b) h'
theorem CE(hC:DU vs h K):ma Tryz.prog 39 vs h K KP:=by
 obtain⟨u,⟨p,l⟩,⟨q,m⟩,v,w,rfl,iv,iw,hl,hK⟩:=hC
 refine kP 68749361215 [(none,(.t 4))] (G:=(λ_ _ _ _ _=>False)) (λ_ _ _ _ _ h=>h.elim) Tryz.func39 (by kernel_rfl) (by conv=>lhs;cbv;try simp only[mF]) ?_
 obtain⟨va,vc,rfl,-,-⟩:=iv.sl
 obtain⟨wa,wc,rfl,-,-⟩:=iw.sl
 simp only at iv iw hl
 obtain⟨h1,u1,hh1,zh1,p1,A1⟩:=kL u h [.int .i64 p,.slice va l.length vc] 59
 obtain⟨h2,u2,hh2,zh2,p2,B2⟩:=kL u1 h1 [.int .i64 q,.slice wa m.length wc] 59
 obtain⟨ab,hab⟩:=kJ h.size
 obtain⟨bb,hbb⟩:=kJ h1.size
 rw[<-hab]at A1
 rw[<-hbb]at B2
 have A2:=A1.sZ p2
 have st2:=p1.tZ p2
 have A21:=A2.1
 have B21:=B2.1
 have iv2:=iv.mono st2.ge
 have iw2:=iw.mono st2.ge
 by_cases hpq:p=q
 case neg=>
  simp(disch:=first|omega|simp only[zz];try omega;done) only[↓reduceIte,go_sem,<-hh1,<-hab,<-hh2,<-hbb,A2.at,A2.2.1,B2.at,B2.2.1,au hpq]
  exact hK false _ _ ⟨λq=>(by cases q),λe=>absurd (bL (·.1) e) hpq⟩ st2
 by_cases hlm:l.length=m.length
 case neg=>
  simp(disch:=first|omega|simp only[zz];try omega;done) only[↓reduceIte,go_sem,<-hh1,<-hab,<-hh2,<-hbb,A2.at,A2.2.1,B2.at,B2.2.1,af hpq,au (show¬(l.length:Int)=m.length by omega)]
  exact hK false _ _ ⟨λq=>(by cases q),λe=>absurd (bL (λx=>x.2.length) e) hlm⟩ st2
 simp(disch:=first|omega|simp only[zz];try omega;done) only[↓reduceIte,go_sem,<-hh1,<-hab,<-hh2,<-hbb,A2.at,A2.2.1,B2.at,B2.2.1,af hpq,af (show(l.length:Int)=m.length by omega)]
 obtain⟨I,hI⟩:=kJ (α:=Nat->lm->H->Prop) λk σ h'=>σ 2= .pointer (some ⟨ab,0,none⟩)/\σ 3= .pointer (some ⟨bb,0,none⟩)/\σ 22= .int .i64 (l.length:Nat)/\σ 23= .int .i64 k/\h'=h2/\k<=l.length/\l.take k=m.take k
 refine kH I (λj=>l.length - j) 0 (by rw[hI];exact⟨by simp [kF],by simp [kF],by simp [kF,hlm],by simp [kF],rfl,by omega,by simp⟩) ?_
 intro k σ h' hi
 rw[hI]at hi
 obtain⟨e2,e3,e22,e23,rfl,hk,heq⟩:=hi
 by_cases hlt:k<l.length
 case neg=>
  rw[aK (by omega),aK (by omega)]at heq
  simp(disch:=first|omega|simp only[zz];try omega;done) only[↓reduceIte,go_sem,e22,e23,au (show¬(k:Int)<(l.length:Nat) by omega)]
  exact hK true _ _ ⟨λ_=>by rw[hpq,heq],λ_=>rfl⟩ st2
 obtain⟨y,hy⟩:=uu hlt
 obtain⟨z,hz⟩: ∃z,m[k]? =some z:=⟨m[k]'(by omega),by rw[aL]⟩
 obtain⟨pb,po,rfl,hpb,hpu,hpz,hpr⟩:=iv2.row k y hy
 obtain⟨qb,qo,rfl,hqb,hqu,hqz,hqr⟩:=iw2.row k z hz
 rw[vY]at hpr hqr
 simp only[Iw,qX,aG,aP]at hpr hpu hpz hqr hqu hqz
 obtain⟨p0,p1'⟩:=hpr
 obtain⟨q0,q1⟩:=hqr
 have hlm':k<m.length:=by omega
 by_cases hyz:y=z
 ·subst hyz
  simp(disch:=first|omega|simp only[zz];try omega;done) only[↓reduceIte,go_sem,e2,e3,e22,e23,af (show(k:Int)<(l.length:Nat) by omega),af (show(k:Int)<(m.length:Nat) by omega),af (show(0:Int)<=(k:Int) by omega),A2.at,A2.2.1,B2.at,B2.2.1,p0,p1',q0,q1]
  exact⟨k+1,by rw[hI];exact⟨by simp [kF,e2],by simp [kF,e3],by simp [kF,e22],by simp [kF],rfl,hlt,by rw[aS,aS,hy,hz,heq]⟩,by omega⟩
 ·have hne: ¬(y.1=z.1/\y.2=z.2):=fun⟨a,b⟩=>hyz (by obtain⟨y1,y2⟩:=y;obtain⟨z1,z2⟩:=z;simp only at a b;rw[a,b])
  simp(disch:=first|omega|simp only[zz];try omega;done) only[↓reduceIte,go_sem,e2,e3,e22,e23,af (show(k:Int)<(l.length:Nat) by omega),af (show(k:Int)<(m.length:Nat) by omega),af (show(0:Int)<=(k:Int) by omega),A2.at,A2.2.1,B2.at,B2.2.1,p0,p1',q0,q1,af (Classical.not_and_iff_not_or_not.1 hne)]
  refine hK false _ _ ⟨λq=>(by cases q),λe=>absurd ?_ hyz⟩ st2
  have:l=m:=bL (·.2) e
  rw[this,hz]at hy
  exact(bu hy).symm
def zt(t:vP):List Value:=[.int .i64 t.1,.bool t.2.1.1,.int .i64 t.2.1.2,.bool t.2.2.1,.int .i64 t.2.2.2]
theorem QW{r:qW}{i:Nat}{c:oU}(h:(kQ r)[i]? =some c):(i<r.2.1.length/\ ∃p,r.2.1[i]? =some p/\c=(1,p,oQ))\/(r.2.1.length<=i/\i - r.2.1.length<r.2.2.1.length/\ ∃t,r.2.2.1[i - r.2.1.length]? =some t/\c=(2,zy,t))\/(r.2.1.length<=i/\r.2.2.1.length<=i - r.2.1.length/\ ∃p,r.2.2.2.1[i - r.2.1.length - r.2.2.1.length]? =some p/\c=(3,p,oQ)):=by
 unfold kQ at h
 by_cases h1:i<r.2.1.length
 ·left
  rw[bi (by simpa using h1),aR]at h
  cases hp:r.2.1[i]? with
  |none=>rw[hp]at h;cases h
  |some p=>rw[hp]at h;exact⟨h1,p,rfl,(bu h).symm⟩
 ·right
  rw[bX (by simpa using jq.1 h1),aQ]at h
  by_cases h2:i - r.2.1.length<r.2.2.1.length
  ·left
   rw[bi (by simpa using h2),aR]at h
   cases hp:r.2.2.1[i - r.2.1.length]? with
   |none=>rw[hp]at h;cases h
   |some p=>rw[hp]at h;exact⟨by omega,h2,p,rfl,(bu h).symm⟩
  ·right
   rw[bX (by simpa using jq.1 h2),aQ,aR]at h
   cases hp:r.2.2.2.1[i - r.2.1.length - r.2.2.1.length]? with
   |none=>rw[hp]at h;cases h
   |some p=>rw[hp]at h;exact⟨by omega,by omega,p,rfl,(bu h).symm⟩
structure Zn (u:U) (h:H) (r:qW) (v0 v1 v2 v3 v4:Value):Prop where
 i0:kM u h v0 r.1.2
 i1:kM u h v1 r.2.1
 i2:kM u h v2 r.2.2.1
 i3:kM u h v3 r.2.2.2.1
 i4:kM u h v4 r.2.2.2.2.1
theorem Zn.mono{u u':U}{h h':H}{r:qW}{v0 v1 v2 v3 v4:Value}(v:Zn u h r v0 v1 v2 v3 v4)(g:Ge u h u' h'):Zn u' h' r v0 v1 v2 v3 v4:=⟨v.i0.mono g,v.i1.mono g,v.i2.mono g,v.i3.mono g,v.i4.mono g⟩
def Ff(r:qW)(v0 v1 v2 v3 v4:Value):List Value:=[.int .i64 r.1.1,v0,v1,v2,v3,v4,.int .i64 r.2.2.2.2.2]
def UJ(vs:List Value)(h:H)(K:Value->H->Prop):Prop:= ∃(u:U) (r:qW) (v0 v1 v2 v3 v4:Value) (i:Nat) (c:oU),vs=[.agg (Ff r v0 v1 v2 v3 v4).toArray,.int .i64 i]/\Zn u h r v0 v1 v2 v3 v4/\r.2.1.length<=1000000/\r.2.2.1.length<=1000000/\r.2.2.2.1.length<=1000000/\(kQ r)[i]? =some c/\ ∀u' h' w,kG S0 u h u' h'->kM u' h' w c.2.1.2->K (.tuple #[.int .i64 c.1,.agg #[.int .i64 c.2.1.1,w],.agg (zt c.2.2).toArray]) h'
theorem KZ(hC:UJ vs h K):ma Tryz.prog 37 vs h K KP:=by
 obtain⟨u,r,v0,v1,v2,v3,v4,i,c,rfl,rv,l1,l2,l3,hc,hK⟩:=hC
 refine kP 134219895 [(none,(.t 4)),((some (.c1 (.ldn 2) (.t 5))),(.o1 (.ldn 2) (.t 5))),((some (.c1 (.ldn 5) (.t 6))),(.o1 (.ldn 5) (.t 6)))] (G:=(λ_ _ _ _ _=>False)) (λ_ _ _ _ _ h=>h.elim) Tryz.func37 (by kernel_rfl) (by apply c0 rfl;repeat' first|apply cS|apply cK|apply cL|apply cX|(apply cC (by decide))|(conv=>lhs;cbv;try simp only[mF])) ?_
 obtain⟨i0,i1,i2,i3,i4⟩:=rv
 obtain⟨a0,b0,rfl,-,-⟩:=i0.sl
 obtain⟨a1,b1,rfl,-,-⟩:=i1.sl
 obtain⟨a2,b2,rfl,-,-⟩:=i2.sl
 obtain⟨a3,b3,rfl,-,-⟩:=i3.sl
 obtain⟨a4,b4,rfl,-,-⟩:=i4.sl
 simp only[Ff]
 obtain⟨h1,u1,hh1,zh1,p1,C1⟩:=kL u h [.int .i64 r.1.1,.slice a0 r.1.2.length b0,.slice a1 r.2.1.length b1,.slice a2 r.2.2.1.length b2,.slice a3 r.2.2.2.1.length b3,.slice a4 r.2.2.2.2.1.length b4,.int .i64 r.2.2.2.2.2] 63
 obtain⟨h2,u2,hh2,zh2,p2,P2⟩:=kL u1 h1 [.int .i64 0,.slice none 0 0] 59
 obtain⟨h3,u3,hh3,zh3,p3,T3⟩:=kL u2 h2 [.int .i64 0,.bool false,.int .i64 0,.bool false,.int .i64 0] 34
 obtain⟨cb,hcb⟩:=kJ h.size
 obtain⟨pb,hpb⟩:=kJ h1.size
 obtain⟨tb,htb⟩:=kJ h2.size
 rw[<-hcb]at C1
 rw[<-hpb]at P2
 rw[<-htb]at T3
 have C3:=(C1.sZ p2).sZ p3
 have P3:=P2.sZ p3
 have st3:=(p1.tZ p2).tZ p3
 have C31:=C3.1
 have hne:pb≠tb:=by omega
 have hcp:cb≠pb:=by omega
 have hct:cb≠tb:=by omega
 have out: ∀(w:Value) (p:Int) (t:vP) (hX:H),∃h8 h9,h8=kU h3 pb 0 [.int .i64 p,w]/\h9=kU h8 tb 0 (zt t)/\kV u3 h8 tb [.int .i64 0,.bool false,.int .i64 0,.bool false,.int .i64 0]/\kV u3 h9 pb [.int .i64 p,w]/\kV u3 h9 tb (zt t)/\kG S0 u h u3 h9/\kV u3 h8 cb [.int .i64 r.1.1,.slice a0 r.1.2.length b0,.slice a1 r.2.1.length b1,.slice a2 r.2.2.1.length b2,.slice a3 r.2.2.2.1.length b3,.slice a4 r.2.2.2.2.1.length b4,.int .i64 r.2.2.2.2.2]/\Ge u3 h3 u3 h9/\pb<h9.size/\tb<h9.size/\tb<h8.size/\cb<h8.size/\kG S0 u h u3 h8:=λw p t _=>by
  obtain⟨h8,h9,q1,q2,q3,q4,q5,q6,q7,q8⟩:=IA (rb:=pb) (qb:=tb) st3 P3 T3 (by omega) (by omega) hne [.int .i64 p,w] (zt t) rfl rfl
  have C8:=C3.step q7 hcp
  exact⟨h8,h9,q1,q2,q3,q4,q5,q6,C8,q7.ge.trans q8.ge,q4.1,q5.1,q3.1,C8.1,st3.own q7 λb q=>by rw[q];omega⟩
 rcases QW hc with⟨hi,p,hp,rfl⟩|⟨hi,hi2,t,ht,rfl⟩|⟨hi,hi2,p,hp,rfl⟩
 ·obtain⟨eb,eo,rfl,heb,heu,hez,her⟩:=(i1.mono st3.ge).row i p hp
  rw[tV]at her
  obtain⟨ev,her,iev⟩:=her
  obtain⟨ea,ec,rfl,-,-⟩:=iev.sl
  simp only[Bu,qX,aG,aP]at her heu hez
  obtain⟨e0,e1⟩:=her
  obtain⟨h8,h9,hh8,hh9,T8,P9,T9,st9,C8,g,x1,x2,x3,x4,-⟩:=out (.slice ea p.2.length ec) p.1 oQ h3
  have hK:=hK u3 h9 (.slice ea p.2.length ec) st9 (iev.mono g)
  simp only[zt,oQ,Jc]at hh9 T9 hK
  simp(disch:=first|omega|simp only[zz];try omega;done) only[↓reduceIte,go_sem,<-hh1,<-hcb,<-hh2,<-hpb,<-hh3,<-htb,C3.at,C3.2.1,af (show(i:Int)<r.2.1.length by omega),af (show(0:Int)<=(i:Int) by omega),e0,e1,P3.2.1,P3.2.2.1,<-hh8,T8.2.1,T8.2.2.1,<-hh9,P9.at,P9.2.1,T9.at,T9.2.1]
  exact hK
 ·obtain⟨j,hj⟩:=kJ (i - r.2.1.length)
  rw[<-hj]at hi2 ht
  have hsub:(i:Int) - r.2.1.length=(j:Nat):=by omega
  obtain⟨h8,h9,hh8,hh9,T8,P9,T9,st9,C8,g,x1,x2,x3,x4,st8⟩:=out (.slice none 0 0) 0 t h3
  obtain⟨eb,eo,rfl,heb,heu,hez,her⟩:=(i2.mono st3.ge).row j t ht
  obtain⟨eb',eo',ee,heb',heu',hez',her'⟩:=(i2.mono st8.ge).row j t ht
  simp only[bQ,Addr.mk.injEq,aP]at ee
  obtain⟨rfl,rfl⟩:=ee
  rw[FO]at her her'
  simp only[UL,Vi,aG,aP]at her heu hez her' heu' hez'
  obtain⟨e0,e1,e2,e3,e4⟩:=her
  obtain⟨d0,d1,d2,d3,d4⟩:=her'
  have hK:=hK u3 h9 (.slice none 0 0) st9 (.nil _ _)
  simp only[zt,zy]at hh9 T9 hK
  simp(disch:=first|omega|simp only[zz];try omega;done) only[↓reduceIte,go_sem,<-hh1,<-hcb,<-hh2,<-hpb,<-hh3,<-htb,C3.at,C3.2.1,au (show¬(i:Int)<r.2.1.length by omega),hsub,af (show((j:Nat):Int)<r.2.2.1.length by omega),af (show(0:Int)<=(j:Int) by omega),e0,e1,e2,e3,e4,P3.2.1,P3.2.2.1,<-hh8,C8.at,C8.2.1,d0,d1,d2,d3,d4,T8.2.1,T8.2.2.1,<-hh9,P9.at,P9.2.1,T9.at,T9.2.1]
  exact hK
 ·obtain⟨j,hj⟩:=kJ (i - r.2.1.length)
  obtain⟨k,hk⟩:=kJ (i - r.2.1.length - r.2.2.1.length)
  rw[<-hk]at hp
  rw[<-hj]at hi2
  have hsub:(i:Int) - r.2.1.length=(j:Nat):=by omega
  have hsub2:(j:Int) - r.2.2.1.length=(k:Nat):=by omega
  obtain⟨eb,eo,rfl,heb,heu,hez,her⟩:=(i3.mono st3.ge).row k p hp
  rw[tV]at her
  obtain⟨ev,her,iev⟩:=her
  obtain⟨ea,ec,rfl,-,-⟩:=iev.sl
  simp only[Bu,qX,aG,aP]at her heu hez
  obtain⟨e0,e1⟩:=her
  have hkl:k<r.2.2.2.1.length:=(aJ.1 hp).1
  obtain⟨h8,h9,hh8,hh9,T8,P9,T9,st9,C8,g,x1,x2,x3,x4,-⟩:=out (.slice ea p.2.length ec) p.1 oQ h3
  have hK:=hK u3 h9 (.slice ea p.2.length ec) st9 (iev.mono g)
  simp only[zt,oQ,Jc]at hh9 T9 hK
  simp(disch:=first|omega|simp only[zz];try omega;done) only[↓reduceIte,go_sem,<-hh1,<-hcb,<-hh2,<-hpb,<-hh3,<-htb,C3.at,C3.2.1,au (show¬(i:Int)<r.2.1.length by omega),hsub,au (show¬((j:Nat):Int)<r.2.2.1.length by omega),hsub2,af (show(0:Int)<=(k:Int) by omega),af (show(k:Int)<r.2.2.2.1.length by omega),e0,e1,P3.2.1,P3.2.2.1,<-hh8,T8.2.1,T8.2.2.1,<-hh9,P9.at,P9.2.1,T9.at,T9.2.1]
  exact hK
end Go.Proofs.Z
namespace Go.Ev
open Go
theorem WM(u:U)(h:H)(z1 z2 c1 c2:List Value)(T1 T2:TypeId)(l1:c1.length=z1.length)(l2:c2.length=z2.length): ∃h1 h2 h3 h4 u4,h1=h.push (.cells z1.toArray T1)/\h2=h1.push (.cells z2.toArray T2)/\h3=kU h2 h.size 0 c1/\h4=kU h3 h1.size 0 c2/\kV u4 h2 h.size z1/\kV u4 h3 h1.size z2/\kV u4 h4 h.size c1/\kV u4 h4 h1.size c2/\kG S0 u h u4 h4/\h1.size=h.size+1/\h4.size=h.size+2:=by
 have B1:=kV.new (u:=u) (h:=h) z1 T1
 have p1:=kG.qZ S0 u h z1.toArray T1
 obtain⟨h1,hh1⟩:=kJ (h.push (.cells z1.toArray T1))
 rw[<-hh1]at B1 p1
 have zs1:h1.size=h.size+1:=by rw[hh1];simp
 have B2:=kV.new (u:=ub u h.size 0) (h:=h1) z2 T2
 have p2:=kG.qZ S0 (ub u h.size 0) h1 z2.toArray T2
 have A2:=B1.sZ p2
 have s3:=kG.sets (S:=λb=>b=h.size) (ub (ub u h.size 0) h1.size 0) (h1.push (.cells z2.toArray T2)) (b:=h.size) (o:=0) c1 rfl (by rw[A2.2.2.2.1];exact az _) (by rw[A2.2.1,l1];omega)
 have A3:=A2.sets l1
 have B3:=B2.step s3 (λq=>by omega)
 have s4:=kG.sets (S:=λb=>b=h1.size) (ub (ub u h.size 0) h1.size 0) (kU (h1.push (.cells z2.toArray T2)) h.size 0 c1) (b:=h1.size) (o:=0) c2 rfl (by rw[B3.2.2.2.1];exact az _) (by rw[B3.2.1,l2];omega)
 have A4:=A3.step s4 (λq=>by omega)
 refine⟨h1,_,_,_,_,hh1,rfl,rfl,rfl,A2,B3,A4,B3.sets l2,((p1.tZ p2).own s3 λb q=>by omega).own s4 λb q=>by omega,zs1,?_⟩
 rw[mX,mX];simp;omega
end Go.Ev
namespace Edict
theorem KY(r:qW):(kQ r).length=r.2.1.length+r.2.2.1.length+r.2.2.2.1.length:=by unfold kQ;simp [dY]
end Edict
namespace Go.Proofs.Z
open Go Go.Ev Edict
def EH(vs:List Value)(h:H)(K:Value->H->Prop):Prop:= ∃(u:U) (a b:qW) (v0 v1 v2 v3 v4 w0 w1 w2 w3 w4:Value) (k:Nat),vs=[.agg (Ff a v0 v1 v2 v3 v4).toArray,.agg (Ff b w0 w1 w2 w3 w4).toArray,.int .i64 k]/\Zn u h a v0 v1 v2 v3 v4/\Zn u h b w0 w1 w2 w3 w4/\xV a/\xV b/\k<=1000000/\ ∀(x:Bool) u' h',(x=true↔k<=(kQ a).length/\k<=(kQ b).length/\(kQ a).take k=(kQ b).take k)->kG S0 u h u' h'->K (.bool x) h'
def JB:mG:=λf vs h K _=>(f=37/\UJ vs h K)\/(f=39/\DU vs h K)
theorem DT:nz Tryz.prog JB:=mK KZ (qd CE)
theorem UI{r:qW}(hr:xV r){i:Nat}{c:oU}(h:(kQ r)[i]? =some c):c.2.1.2.length<=1000000:=by
 rcases QW h with⟨-,p,hp,rfl⟩|⟨-,-,t,-,rfl⟩|⟨-,-,p,hp,rfl⟩
 ·exact hr.2.2.2.2.2.1 p (aI hp)
 ·simp [zy]
 ·exact hr.2.2.2.2.2.2 p (aI hp)
theorem Io{vs:List Value}{h:H}{K:Value->H->Prop}{KP:List PanicEntry->H->Prop}(hC:EH vs h K):ma Tryz.prog 13 vs h K KP:=by
 obtain⟨u,a,b,v0,v1,v2,v3,v4,w0,w1,w2,w3,w4,k,rfl,ra,rb,fa,fb,hk,hK⟩:=hC
 refine kP 18889465951269790171103 [(none,(.t 6))] DT Tryz.func13 (by kernel_rfl) (by conv=>lhs;cbv;try simp only[mF]) ?_
 obtain⟨a0,b0,rfl,-,-⟩:=ra.i0.sl
 obtain⟨a1,b1,rfl,-,-⟩:=ra.i1.sl
 obtain⟨a2,b2,rfl,-,-⟩:=ra.i2.sl
 obtain⟨a3,b3,rfl,-,-⟩:=ra.i3.sl
 obtain⟨a4,b4,rfl,-,-⟩:=ra.i4.sl
 obtain⟨c0,d0,rfl,-,-⟩:=rb.i0.sl
 obtain⟨c1,d1,rfl,-,-⟩:=rb.i1.sl
 obtain⟨c2,d2,rfl,-,-⟩:=rb.i2.sl
 obtain⟨c3,d3,rfl,-,-⟩:=rb.i3.sl
 obtain⟨c4,d4,rfl,-,-⟩:=rb.i4.sl
 have la:=KY a
 have lb:=KY b
 obtain⟨fa0,fa1,fa2,fa3,fa4,fa5,fa6⟩:=id fa
 obtain⟨fb0,fb1,fb2,fb3,fb4,fb5,fb6⟩:=id fb
 obtain⟨h1,u1,hh1,zh1,p1,A1⟩:=kL u h (Ff a (.slice a0 a.1.2.length b0) (.slice a1 a.2.1.length b1) (.slice a2 a.2.2.1.length b2) (.slice a3 a.2.2.2.1.length b3) (.slice a4 a.2.2.2.2.1.length b4)) 63
 obtain⟨h2,u2,hh2,zh2,p2,B2⟩:=kL u1 h1 (Ff b (.slice c0 b.1.2.length d0) (.slice c1 b.2.1.length d1) (.slice c2 b.2.2.1.length d2) (.slice c3 b.2.2.2.1.length d3) (.slice c4 b.2.2.2.2.1.length d4)) 63
 obtain⟨ab,hab⟩:=kJ h.size
 obtain⟨bb,hbb⟩:=kJ h1.size
 rw[<-hab]at A1
 rw[<-hbb]at B2
 have A2:=A1.sZ p2
 have st2:=p1.tZ p2
 simp only[Ff]at hh1 hh2 A2 B2 ⊢
 have A21:=A2.1
 have B21:=B2.1
 by_cases ha:k<=(kQ a).length
 case neg=>
  simp(disch:=first|omega|simp only[zz];try omega;done) only[↓reduceIte,go_sem,<-hh1,<-hab,<-hh2,<-hbb,A2.at,A2.2.1,B2.at,af (show(a.2.1.length:Int)+a.2.2.1.length+a.2.2.2.1.length<k by omega)]
  exact hK false _ _ ⟨λq=>(by cases q),λq=>absurd q.1 ha⟩ st2
 by_cases hb:k<=(kQ b).length
 case neg=>
  simp(disch:=first|omega|simp only[zz];try omega;done) only[↓reduceIte,go_sem,<-hh1,<-hab,<-hh2,<-hbb,A2.at,A2.2.1,B2.at,B2.2.1,au (show¬(a.2.1.length:Int)+a.2.2.1.length+a.2.2.2.1.length<k by omega),af (show(b.2.1.length:Int)+b.2.2.1.length+b.2.2.2.1.length<k by omega)]
  exact hK false _ _ ⟨λq=>(by cases q),λq=>absurd q.2.1 hb⟩ st2
 simp(disch:=first|omega|simp only[zz];try omega;done) only[↓reduceIte,go_sem,<-hh1,<-hab,<-hh2,<-hbb,A2.at,A2.2.1,B2.at,B2.2.1,au (show¬(a.2.1.length:Int)+a.2.2.1.length+a.2.2.2.1.length<k by omega),au (show¬(b.2.1.length:Int)+b.2.2.1.length+b.2.2.2.1.length<k by omega)]
 obtain⟨I,hI⟩:=kJ (α:=Nat->lm->H->Prop) λi σ h'=> ∃(u':U),σ 2= .int .i64 k/\σ 3= .pointer (some ⟨ab,0,none⟩)/\σ 4= .pointer (some ⟨bb,0,none⟩)/\σ 7= .int .i64 i/\i<=k/\kG S0 u h u' h'/\Ge u2 h2 u' h'/\kV u' h' ab [.int .i64 a.1.1,.slice a0 a.1.2.length b0,.slice a1 a.2.1.length b1,.slice a2 a.2.2.1.length b2,.slice a3 a.2.2.2.1.length b3,.slice a4 a.2.2.2.2.1.length b4,.int .i64 a.2.2.2.2.2]/\kV u' h' bb [.int .i64 b.1.1,.slice c0 b.1.2.length d0,.slice c1 b.2.1.length d1,.slice c2 b.2.2.1.length d2,.slice c3 b.2.2.2.1.length d3,.slice c4 b.2.2.2.2.1.length d4,.int .i64 b.2.2.2.2.2]/\(kQ a).take i=(kQ b).take i
 refine kH I (λj=>k - j) 0 (by rw[hI];exact⟨u2,by simp [kF],by simp [kF],by simp [kF],by simp [kF],by omega,st2,Ge.refl _ _,A2,B2,by simp⟩) ?_
 intro i σ h' hi
 rw[hI]at hi
 obtain⟨u',e2,e3,e4,e7,hik,st,g',A,B,heq⟩:=hi
 have A1':=A.1
 have B1':=B.1
 by_cases hlt:i<k
 case neg=>
  have:i=k:=by omega
  subst this
  simp(disch:=first|omega|simp only[zz];try omega;done) only[↓reduceIte,go_sem,e2,e7,au (show¬(i:Int)<(i:Nat) by omega)]
  exact hK true _ _ ⟨λ_=>⟨ha,hb,heq⟩,λ_=>rfl⟩ st
 obtain⟨c,hc⟩: ∃c,(kQ a)[i]? =some c:=⟨(kQ a)[i]'(by omega),by rw[aL]⟩
 obtain⟨d,hd⟩: ∃d,(kQ b)[i]? =some d:=⟨(kQ b)[i]'(by omega),by rw[aL]⟩
 have hcl:=UI fa hc
 simp(disch:=first|omega|simp only[zz];try omega;done) only[↓reduceIte,go_sem,e2,e3,e7,af (show(i:Int)<(k:Nat) by omega),A.at,A.2.1]
 refine kD (.inl ⟨rfl,u',a,_,_,_,_,_,i,c,rfl,ra.mono st.ge,fa1,fa2,fa3,hc,λu3 h3 x s3 ix=>⟨kY,?_⟩⟩)
 obtain⟨xa,xc,rfl,-,-⟩:=ix.sl
 obtain⟨h4,h5,h6,h7,u7,hh4,hh5,hh6,hh7,P5,T6,P7,T7,s7,z4,z7⟩:=WM u3 h3 [.int .i64 0,.slice none 0 0] [.int .i64 0,.bool false,.int .i64 0,.bool false,.int .i64 0] [.int .i64 c.2.1.1,.slice xa c.2.1.2.length xc] (zt c.2.2) 59 34 rfl rfl
 obtain⟨pb,hpb⟩:=kJ h3.size
 obtain⟨tb,htb⟩:=kJ h4.size
 rw[<-hpb]at P5 P7 hh6
 rw[<-htb]at T6 T7 hh7
 simp only[zt]at hh7 T7 ⊢
 have st7:=(st.tZ s3).tZ s7
 have A7:=(A.sZ s3).sZ s7
 have B7:=(B.sZ s3).sZ s7
 have A71:=A7.1
 have B71:=B7.1
 have P71:=P7.1
 have T71:=T7.1
 have ix7:=ix.mono s7.ge
 have P51:=P5.1
 have T61:=T6.1
 simp(disch:=first|omega|simp only[zz];try omega;done) only[↓reduceIte,go_sem,e4,e7,<-hh4,<-hpb,<-hh5,<-htb,P5.2.1,P5.2.2.1,<-hh6,T6.2.1,T6.2.2.1,<-hh7,B7.at,B7.2.1]
 refine kD (.inl ⟨rfl,u7,b,_,_,_,_,_,i,d,rfl,rb.mono st7.ge,fb1,fb2,fb3,hd,λu8 h8 y s8 iy=>⟨kY,?_⟩⟩)
 obtain⟨ya,yc,rfl,-,-⟩:=iy.sl
 obtain⟨h9,h10,h11,h12,u12,hh9,hh10,hh11,hh12,Q10,S11,Q12,S12,s12,z9,z12⟩:=WM u8 h8 [.int .i64 0,.slice none 0 0] [.int .i64 0,.bool false,.int .i64 0,.bool false,.int .i64 0] [.int .i64 d.2.1.1,.slice ya d.2.1.2.length yc] (zt d.2.2) 59 34 rfl rfl
 obtain⟨qb,hqb⟩:=kJ h8.size
 obtain⟨sb,hsb⟩:=kJ h9.size
 rw[<-hqb]at Q10 Q12 hh11
 rw[<-hsb]at S11 S12 hh12
 simp only[zt]at hh12 S12 ⊢
 have st12:=(st7.tZ s8).tZ s12
 have A12:=(A7.sZ s8).sZ s12
 have B12:=(B7.sZ s8).sZ s12
 have P12:=(P7.sZ s8).sZ s12
 have T12:=(T7.sZ s8).sZ s12
 have P121:=P12.1
 have T121:=T12.1
 have Q121:=Q12.1
 have S121:=S12.1
 have Q101:=Q10.1
 have S111:=S11.1
 have ix12:=(ix7.mono s8.ge).mono s12.ge
 have iy12:=iy.mono s12.ge
 have g12:=(((g'.trans s3.ge).trans s7.ge).trans s8.ge).trans s12.ge
 have bad:c≠d-> ¬((kQ a).take k=(kQ b).take k):=λhne e=>by
  have e2:=bL (λl=>l[i]?) e
  simp only[bV,ay hlt,hc,hd]at e2
  exact hne (bu e2)
 have fin:c=d-> ∀σ'':lm,σ'' 7= .int .i64 ((i:Int)+1)->(∀j,j<5->σ'' j=σ j)-> ∀u9 h9',kG S0 u12 h12 u9 h9'-> ∃j,I j σ'' h9'/\k - j<k - i:=λe σ'' g7 gσ u9 h9' s9=>by
  refine⟨i+1,?_,by omega⟩
  rw[hI]
  exact⟨u9,(gσ 2 (by omega)).trans e2,(gσ 3 (by omega)).trans e3,(gσ 4 (by omega)).trans e4,by rw[g7];simp,hlt,st12.tZ s9,g12.trans s9.ge,A12.sZ s9,B12.sZ s9,by rw[aS,aS,hc,hd,heq,e]⟩
 by_cases h1:c.1=d.1
 case neg=>
  simp(disch:=first|omega|simp only[zz];try omega;done) only[↓reduceIte,go_sem,<-hh9,<-hqb,<-hh10,<-hsb,Q10.2.1,Q10.2.2.1,<-hh11,S11.2.1,S11.2.2.1,<-hh12,au h1]
  exact hK false _ _ ⟨λq=>(by cases q),λq=>absurd q.2.2 (bad λe=>h1 (by rw[e]))⟩ st12
 by_cases h2:c.2.2=d.2.2
 case neg=>
  have hne: ¬(c.2.2.1=d.2.2.1/\c.2.2.2.1.1=d.2.2.2.1.1/\c.2.2.2.1.2=d.2.2.2.1.2/\c.2.2.2.2.1=d.2.2.2.2.1/\c.2.2.2.2.2=d.2.2.2.2.2):=fun⟨q1,q2,q3,q4,q5⟩=>h2 (Prod.ext q1 (Prod.ext (Prod.ext q2 q3) (Prod.ext q4 q5)))
  have hne2:(decide (c.2.2.1=d.2.2.1) && (decide (c.2.2.2.1.1=d.2.2.2.1.1) && (decide (c.2.2.2.1.2=d.2.2.2.1.2) && (decide (c.2.2.2.2.1=d.2.2.2.2.1) && decide (c.2.2.2.2.2=d.2.2.2.2.2)))))=false:=by
   rw[gq]
   simp only[ne_eq,bA,bf]
   exact hne
  simp(disch:=first|omega|simp only[zz];try omega;done) only[↓reduceIte,go_sem,<-hh9,<-hqb,<-hh10,<-hsb,Q10.2.1,Q10.2.2.1,<-hh11,S11.2.1,S11.2.2.1,<-hh12,af h1,S12.at,S12.2.1,T12.at,T12.2.1,hne2]
  exact hK false _ _ ⟨λq=>(by cases q),λq=>absurd q.2.2 (bad λe=>h2 (by rw[e]))⟩ st12
 rw[h2]at T12
 simp(disch:=first|omega|simp only[zz];try omega;done) only[↓reduceIte,go_sem,<-hh9,<-hqb,<-hh10,<-hsb,Q10.2.1,Q10.2.2.1,<-hh11,S11.2.1,S11.2.2.1,<-hh12,af h1,S12.at,S12.2.1,T12.at,T12.2.1,Q12.at,Q12.2.1,P12.at,P12.2.1]
 refine kD (.inr ⟨rfl,u12,c.2.1,d.2.1,_,_,rfl,ix12,iy12,hcl,λx u13 h13 hx s13=>⟨kY,?_⟩⟩)
 cases x with
 |true=>
  have e:c=d:=Prod.ext h1 (Prod.ext (hx.1 rfl) h2)
  simp(disch:=first|omega|simp only[zz];try omega;done) only[↓reduceIte,go_sem,e7]
  exact fin e _ (by simp [kF]) (λj q=>by simp only[kF];repeat rw[ah (by omega)]) _ _ s13
 |false=>
  simp(disch:=first|omega|simp only[zz];try omega;done) only[↓reduceIte,go_sem,Vs]
  exact hK false _ _ ⟨λq=>(by cases q),λq=>absurd q.2.2 (bad λe=>by have:=hx.2 (by rw[e]);cases this)⟩ (st12.tZ s13)
end Go.Proofs.Z
namespace Edict
def zn(V:List Nm)(x:Nat)(t:ll):Nat:=if t.1=4 then max x (rU V t.2.2.1+1).toNat else x
def vX(V:List Nm)(x:Nat)(l:List ll):Nat:=l.foldl (zn V) x
def sI(V:List Nm)(x:Nat)(l:List lH):Nat:=l.foldl (λx a=>vX V x a.2.1) x
theorem FM(V:List Nm)(n:Nm): -1<=rU V n/\rU V n+1<=V.length:=by
 by_cases h:n∈V
 ·obtain⟨i,q1,q2,-⟩:=oN h;omega
 ·rw[uW h];omega
theorem abO{V:List Nm}{x:Nat}{t:ll}(h:x<=V.length):zn V x t<=V.length:=by
 unfold zn
 have:=FM V t.2.2.1
 split<;>omega
theorem Im{V:List Nm}: ∀{l:List ll} {x:Nat},x<=V.length->vX V x l<=V.length
 |[],x,h=>h
 |t::l,x,h=>Im (l:=l) (abO h)
theorem QV{V:List Nm}: ∀{l:List lH} {x:Nat},x<=V.length->sI V x l<=V.length
 |[],x,h=>h
 |t::l,x,h=>QV (l:=l) (Im h)
end Edict
namespace Go.Ev
open Go
variable {b:Nat} {cs:List Value} {h h':H} {o:Nat} {u u':U}
structure Rw (u:U) (h:H) (b o:Nat) (cs:List Value):Prop where
 lt:b<h.size
 sz:o+cs.length<=hsz h b
 fz:o+cs.length<=u b
 at': ∀i v,cs[i]? =some v->Go.Ev.hv h b (o+i)=v
theorem Rw.mono(k:Rw u h b o cs)(g:Ge u h u' h'):Rw u' h' b o cs:=
 ⟨bM k.lt g.sz,by rw[(g.hs b k.lt).1];exact k.sz,aY k.fz (g.up b k.lt),λi v hv=>by
  have hi:=(aJ.1 hv).1
  rw[g.cl b k.lt _ (by have:=k.fz;omega)]
  exact k.at' i v hv⟩
theorem Rw.sZ(k:Rw u h b o cs)(s:kG S0 u h u' h'):Rw u' h' b o cs:=k.mono s.ge
theorem Rw.at(k:Rw u h b o cs)(i:Nat)(hi:i<cs.length):Go.Ev.hv h b (o+i)=cs.getD i undef:=by
 have:=k.at' i cs[i] (by simp [hi])
 rw[this,aO,aL hi];rfl
end Go.Ev
namespace Go.Proofs.Z
open Go Go.Ev Edict
def WL(vs:List Value)(h:H)(K:Value->H->Prop):Prop:= ∃(u:U) (cb co:Nat) (x0 x1 x2 x7 v1 v2 v3 v4:Value) (A:List lH) (T:List lV) (N:List lH) (V:List Nm) (k:Nat),vs=[.pointer (some ⟨cb,co,none⟩),.int .i64 k]/\Rw u h cb co [x0,x1,x2,v1,v2,v3,v4,x7]/\kM u h v1 A/\kM u h v2 T/\kM u h v3 N/\kM u h v4 V/\k<=1000000/\V.length<=1000000/\A.length<=1000000/\T.length<=1000000/\N.length<=1000000/\(∀a∈A,a.2.1.length<=1000000)/\
 ∀u' h' y3 y4 y5 y6 c6,kG S0 u h u' h'->mg y3=true->mg y4=true->mg y5=true->K (.agg #[str [],.slice none 0 0,.int .i64 0,y3,y4,y5,.slice y6 (sI V 0 (A.take k)) c6,.int .i64 0]) h'
def KX:mG:=λf vs h K _=>f=40/\rz vs h K
theorem Nw:nz Tryz.prog KX:=qd oM
theorem abP {cb co:Nat} {u:U} {h:H} {x0 x1 x2 x7 v1 v2 v3:Value} {V:List Nm} {va:Option Addr} {vc:Nat} {σ0:lm} {Q:qm} {l:List ll} {la:Option Addr} {lc w:Nat} (C:Rw u h cb co [x0,x1,x2,v1,v2,v3,.slice va V.length vc,x7]) (iv:kM u h (.slice va V.length vc) V) (hV:V.length<=1000000) (il:kM u h (.slice la l.length lc) l) (hl:l.length<=1000000) (hw:w<=V.length)
  (f0:σ0 0= .pointer (some ⟨cb,co,none⟩)) (f6:σ0 6= .int .i64 w) (f68:σ0 68= .slice la l.length lc) (f69:σ0 69= .int .i64 (l.length:Nat)) (f70:σ0 70= .int .i64 0)
  (hQ: ∀σ' u' h',(∀i,i<70->i≠6->i≠10->σ' i=σ0 i)->σ' 6= .int .i64 (vX V w l:Nat)->kG S0 u h u' h'->Q (.exit 2) σ' h'):wpS KX (.loop Vf) Q σ0 h:=by
 obtain⟨I,hI⟩:=kJ (α:=Nat->lm->H->Prop) λk σ h'=> ∃(u':U),σ 6= .int .i64 (vX V w (l.take k):Nat)/\σ 70= .int .i64 k/\(∀i,i<70->i≠6->i≠10->σ i=σ0 i)/\k<=l.length/\kG S0 u h u' h'
 refine kH I (λj=>l.length - j) 0 (by rw[hI];exact⟨u,by simpa [vX]using f6,by rw[f70];rfl,λi _ _ _=>rfl,by omega,.refl _ _ _⟩) ?_
 intro k σ h' hi
 rw[hI]at hi
 obtain⟨u',e6,e70,eσ,hk,st⟩:=hi
 have e0:=(eσ 0 (by omega) (by omega) (by omega)).trans f0
 have e68:=(eσ 68 (by omega) (by omega) (by omega)).trans f68
 have e69:=(eσ 69 (by omega) (by omega) (by omega)).trans f69
 by_cases hlt:k<l.length
 case neg=>
  rw[aK (by omega)]at e6
  simp(disch:=first|omega|simp only[zz];try omega;done) only[↓reduceIte,go_sem,Vf,e69,e70,au (show¬(k:Int)<(l.length:Nat) by omega)]
  exact hQ _ _ _ (λi a b c=>by simp only[kF];rw[ah (by omega)];exact eσ i (by omega) b c) (by simp [kF,e6]) st
 obtain⟨y,hy⟩:=uu hlt
 have hsn:vX V w (l.take (k+1))=zn V (vX V w (l.take k)) y:=by rw[aS,hy];simp [vX]
 obtain⟨pb,po,rfl,hpb,hpu,hpz,hpr⟩:=(il.mono st.ge).row k y hy
 rw[mV]at hpr
 simp only[lW,uR,uH,aG,aP]at hpr hpu hpz
 obtain⟨p0,p1',p2',p3'⟩:=hpr
 obtain⟨h5',h6,u6,hh5,hh6,B5,B6,s6,hz6⟩:=kZ u' h' [.int .i64 0,.int .i64 0,str [],.int .i64 0] (lW y) 98 rfl
 simp only[lW]at hh6 B6
 have B51:=B5.1
 have B61:=B6.1
 obtain⟨bb,hbb⟩:=kJ h'.size
 rw[<-hbb]at B5 B51 B6 B61 hh6
 have st6:=st.tZ s6
 have C6:=C.sZ st6
 have C61:=C6.1
 have C6z:=C6.sz
 simp only[aM,bg]at C6z
 have hwk:=Im (V:=V) (l:=l.take k) hw
 obtain⟨W,hW⟩:=kJ (vX V w (l.take k))
 rw[<-hW]at e6 hwk hsn
 have fin: ∀(σ'':lm) (u9:U) (h9:H),σ'' 6= .int .i64 (zn V W y:Nat)->σ'' 70= .int .i64 ((k:Int)+1)->(∀i,i<70->i≠6->i≠10->σ'' i=σ i)->kG S0 u h u9 h9-> ∃j,I j σ'' h9/\l.length - j<l.length - k:=by
  intro σ'' u9 h9 g6 g70 gσ st9
  refine⟨k+1,?_,by omega⟩
  rw[hI]
  exact⟨u9,by rw[hsn];exact g6,by rw[g70];simp,λi a b c=>(gσ i a b c).trans (eσ i a b c),hlt,st9⟩
 by_cases h4:y.1=4
 ·simp(disch:=first|omega|simp only[zz];try omega;done) only[↓reduceIte,go_sem,Vf,e0,e68,e69,e70,af (show(k:Int)<(l.length:Nat) by omega),p0,p1',p2',p3',<-hbb,<-hh5,<-hh6,B5.2.1,B5.2.2.1,B6.at,B6.2.1,af h4,C6.at]
  refine kD ⟨rfl,u6,_,V,y.2.2.1,rfl,iv.mono st6.ge,by omega,⟨kY,?_⟩⟩
  obtain⟨n1,n2⟩:=FM V y.2.2.1
  have e9:(if(W:Int)<rU V y.2.2.1+1 then rU V y.2.2.1+1 else(W:Int))=(zn V W y:Nat):=by
   unfold zn
   rw[ay h4]
   split<;>omega
  simp(disch:=first|omega|simp only[zz];try omega;done) only[↓reduceIte,go_sem,e6,e70,e9]
  exact fin _ u6 _ (by simp [kF]) (by simp [kF]) (λi a b c=>by simp only[kF];repeat rw[ah (by omega)]) st6
 ·simp(disch:=first|omega|simp only[zz];try omega;done) only[↓reduceIte,go_sem,Vf,e68,e69,e70,af (show(k:Int)<(l.length:Nat) by omega),p0,p1',p2',p3',<-hbb,<-hh5,<-hh6,B5.2.1,B5.2.2.1,B6.at,B6.2.1,au h4]
  exact fin _ u6 _ (by simp only[kF];(repeat rw[ah (by omega)]);unfold zn;rw[ah h4];exact e6) (by simp [kF]) (λi a b c=>by simp only[kF];repeat rw[ah (by omega)]) st6
theorem UH{vs:List Value}{h:H}{K:Value->H->Prop}{KP:List PanicEntry->H->Prop}(hC:WL vs h K):ma Tryz.prog 14 vs h K KP:=by
 obtain⟨u,cb,co,x0,x1,x2,x7,v1,v2,v3,v4,A,T,N,V,k,rfl,C,i1,i2,i3,i4,hk,hV,hA,hT,hN,hA8,hK⟩:=hC
 refine kP 80019669948742821217651 [((some (.c1 (.ldn 8) (.t 4))),(.o1 (.ldn 8) (.t 4)))] Nw Tryz.func14 (by kernel_rfl) (by apply c0 rfl;repeat' first|apply cS|apply cK|apply cL|apply cX|(apply cC (by decide))|(conv=>lhs;cbv;try simp only[mF])) ?_
 obtain⟨a1,b1,rfl,hb1,-⟩:=i1.sl
 obtain⟨a2,b2,rfl,hb2,-⟩:=i2.sl
 obtain⟨a3,b3,rfl,hb3,-⟩:=i3.sl
 obtain⟨a4,b4,rfl,hb4,-⟩:=i4.sl
 obtain⟨h1,u1,hh1,zh1,p1,R1⟩:=kL u h [str [],.slice none 0 0,.int .i64 0,.slice none 0 0,.slice none 0 0,.slice none 0 0,.slice none 0 0,.int .i64 0] 56
 obtain⟨h2,u2,hh2,zh2,p2,D2⟩:=kL u1 h1 [str [],.slice none 0 0,.int .i64 0,.slice none 0 0,.slice none 0 0,.slice none 0 0,.slice none 0 0,.int .i64 0] 56
 obtain⟨rb,hrb⟩:=kJ h.size
 obtain⟨db,hdb⟩:=kJ h1.size
 rw[<-hrb]at R1
 rw[<-hdb]at D2
 have R2:=R1.sZ p2
 have st2:=p1.tZ p2
 have C2:=C.sZ st2
 have C21:=C2.1
 have C2z:=C2.sz
 simp only[aM,bg]at C2z
 have D21:=D2.1
 have hrb0:h.size<=rb:=by omega
 have hdb0:h.size<=db:=by omega
 have hrd:rb≠db:=by omega
 obtain⟨m0,hm0⟩:=kJ (min k A.length)
 obtain⟨k1,hk1⟩:=kJ (k - m0)
 obtain⟨m1,hm1⟩:=kJ (min k1 T.length)
 obtain⟨k2,hk2⟩:=kJ (k1 - m1)
 obtain⟨m2,hm2⟩:=kJ (min k2 N.length)
 have e0:(if A.length<k then(A.length:Int)else(k:Int))=(m0:Nat):=by split<;>omega
 have e1:(if T.length<k1 then(T.length:Int)else(k1:Int))=(m1:Nat):=by split<;>omega
 have e2:(if N.length<k2 then(N.length:Int)else(k2:Int))=(m2:Nat):=by split<;>omega
 have s0:(k:Int) - (m0:Nat)=(k1:Nat):=by omega
 have s1:(k1:Int) - (m1:Nat)=(k2:Nat):=by omega
 have hcd:cb≠db:=by have:=C.1;omega
 have hcr:cb≠rb:=by have:=C.1;omega
 obtain⟨h3,hh3,st3,D3,g3,D31⟩:=tT (i:=3) (.slice a1 m0 b1) st2 D2 hdb0 (by simp)
 obtain⟨h4,hh4,st4,D4,g4,D41⟩:=tT (i:=4) (.slice a2 m1 b2) st3 D3 hdb0 (by simp)
 obtain⟨h5,hh5,st5,D5,g5,D51⟩:=tT (i:=5) (.slice a3 m2 b3) st4 D4 hdb0 (by simp)
 simp only[bP,cZ]at D3 D4 D5
 have C3:=C.sZ st3
 have C4:=C.sZ st4
 have C5:=C.sZ st5
 have C31:=C3.1
 have C3z:=C3.sz
 simp only[aM,bg]at C3z
 have C41:=C4.1
 have C4z:=C4.sz
 simp only[aM,bg]at C4z
 have C51:=C5.1
 have C5z:=C5.sz
 simp only[aM,bg]at C5z
 have R5:kV u2 h5 rb [str [],.slice none 0 0,.int .i64 0,.slice none 0 0,.slice none 0 0,.slice none 0 0,.slice none 0 0,.int .i64 0]:=by
  rw[hh5,hh4,hh3]
  exact((R2.step (kG.set (S:=λx=>x=db) u2 _ _ rfl (by rw[D2.2.2.2.1];exact az _)) hrd).step (kG.set (S:=λx=>x=db) u2 _ _ rfl (by rw[D2.2.2.2.1];exact az _)) hrd).step (kG.set (S:=λx=>x=db) u2 _ _ rfl (by rw[D2.2.2.2.1];exact az _)) hrd
 simp(disch:=first|omega|simp only[zz];try omega;done) only[↓reduceIte,go_sem,<-hh1,<-hrb,<-hh2,<-hdb,C2.at,e0,af (show(m0:Int)<=b1 by omega),D2.2.1,D2.2.2.1,<-hh3,D3.at,D3.2.1,D3.2.2.1,s0,C3.at,e1,af (show(m1:Int)<=b2 by omega),<-hh4,D4.at,D4.2.1,D4.2.2.1,s1,C4.at,e2,af (show(m2:Int)<=b3 by omega),<-hh5,D5.at,D5.2.1]
 have hAk:A.take m0=A.take k:=by
  rw[hm0]
  by_cases q:k<=A.length
  ·rw[dK q]
  ·rw[dP (by omega),aK (aH _),aK (by omega)]
 obtain⟨I,hI⟩:=kJ (α:=Nat->lm->H->Prop) λi σ h'=> ∃(u':U),σ 0= .pointer (some ⟨cb,co,none⟩)/\σ 4= .pointer (some ⟨rb,0,none⟩)/\σ 5= .pointer (some ⟨db,0,none⟩)/\σ 6= .int .i64 (sI V 0 (A.take i):Nat)/\σ 61= .slice a1 m0 b1/\σ 62= .int .i64 (m0:Nat)/\σ 63= .int .i64 i/\i<=m0/\kG S0 u h u' h'/\kG S0 u2 h5 u' h'
 refine kH I (λj=>m0 - j) 0 (by rw[hI];exact⟨u2,by simp [kF],by simp [kF],by simp [kF],by simp [kF,sI],by simp [kF],by simp [kF],by simp [kF],by omega,st5,.refl _ _ _⟩) ?_
 clear hh1 hh2 hh3 hh4 hh5 D2 D3 D4 R1 R2 C2 C3 C4
 intro i σ h' hi
 rw[hI]at hi
 obtain⟨u',f0,f4,f5,f6,f61,f62,f63,hi0,st,s5⟩:=hi
 have D:=D5.sZ s5
 have R:=R5.sZ s5
 have C':=C5.sZ s5
 have D1:=D.1
 have R1:=R.1
 have C1:=C'.1
 have Cz:=C'.sz
 simp only[aM,bg]at Cz
 have hw:=QV (V:=V) (l:=A.take i) (x:=0) (az _)
 by_cases hlt:i<m0
 case neg=>
  have:i=m0:=by omega
  subst this
  rw[hAk]at f6 hw
  have iv:=i4.mono st.ge
  obtain⟨h6,hh6,st6,D6,g6,D61⟩:=tT (i:=6) (.slice a4 (sI V 0 (A.take k)) b4) st D hdb0 (by simp)
  simp only[bP,cZ]at D6
  have R6:kV u' h6 rb [str [],.slice none 0 0,.int .i64 0,.slice none 0 0,.slice none 0 0,.slice none 0 0,.slice none 0 0,.int .i64 0]:=by
   rw[hh6]
   exact R.step (kG.set (S:=λx=>x=db) u' _ _ rfl (by rw[D.2.2.2.1];exact az _)) hrd
  have sR:=kG.sets (S:=λb=>b=rb) u' h6 (b:=rb) (o:=0) [str [],.slice none 0 0,.int .i64 0,.slice a1 i b1,.slice a2 m1 b2,.slice a3 m2 b3,.slice a4 (sI V 0 (A.take k)) b4,.int .i64 0] rfl (by rw[R6.2.2.2.1];exact az _) (by rw[R6.2.1];exact aH _)
  have RH:=R6.sets (l:=[str [],.slice none 0 0,.int .i64 0,.slice a1 i b1,.slice a2 m1 b2,.slice a3 m2 b3,.slice a4 (sI V 0 (A.take k)) b4,.int .i64 0]) rfl
  obtain⟨h7,hh7⟩:=kJ (kU h6 rb 0 [str [],.slice none 0 0,.int .i64 0,.slice a1 i b1,.slice a2 m1 b2,.slice a3 m2 b3,.slice a4 (sI V 0 (A.take k)) b4,.int .i64 0])
  rw[<-hh7]at sR RH
  have RH1:=RH.1
  have hK:=hK u' h7 (.slice a1 i b1) (.slice a2 m1 b2) (.slice a3 m2 b3) a4 b4 (st6.own sR λb q=>by rw[q];exact hrb0) rfl rfl rfl
  simp(disch:=first|omega|simp only[zz];try omega;done) only[↓reduceIte,go_sem,f0,f4,f5,f6,f62,f63,au (show¬(i:Int)<(i:Nat) by omega),C'.at,af (show((sI V 0 (A.take k):Nat):Int)<=b4 by omega),af (show(0:Int)<=(sI V 0 (A.take k):Nat) by omega),D.2.1,D.2.2.1,<-hh6,D6.at,D6.2.1,R6.2.1,R6.2.2.1,<-hh7,RH.at,RH.2.1]
  exact hK
 obtain⟨y,hy⟩: ∃y,A[i]? =some y:=⟨A[i]'(by omega),by rw[aL]⟩
 have hy8:=hA8 y (aI hy)
 have hsn:sI V 0 (A.take (i+1))=vX V (sI V 0 (A.take i)) y.2.1:=by rw[aS,hy];simp [sI]
 have hiA:i<A.length:=by omega
 obtain⟨pb,po,rfl,hpb,hpu,hpz,hpr⟩:=(i1.mono st.ge).row i y hy
 rw[oK]at hpr
 obtain⟨yv,hpr,iyv⟩:=hpr
 obtain⟨ya,yc,rfl,-,-⟩:=iyv.sl
 simp only[uU,vD,aG,aP]at hpr hpu hpz
 obtain⟨p0,p1',p2'⟩:=hpr
 obtain⟨h6',h6,u6,hh6',hh6,B6',B6,s6,hz6⟩:=kZ u' h' [str [],.slice none 0 0,.int .i64 0] [str y.1,.slice ya y.2.1.length yc,.int .i64 y.2.2] 52 rfl
 have B61':=B6'.1
 have B61:=B6.1
 obtain⟨bb,hbb⟩:=kJ h'.size
 rw[<-hbb]at B6' B61' B6 B61 hh6
 have st6:=st.tZ s6
 have C6:=C'.sZ s6
 simp(disch:=first|omega|simp only[zz];try omega;done) only[↓reduceIte,go_sem,f61,f62,f63,af (show(i:Int)<(m0:Nat) by omega),p0,p1',p2',<-hbb,<-hh6',<-hh6,B6'.2.1,B6'.2.2.1,B6.at,B6.2.1]
 refine abP C6 (i4.mono st6.ge) hV (iyv.mono s6.ge) hy8 hw (by simp [kF,f0]) (by simp [kF,f6]) (by simp [kF]) (by simp [kF]) (by simp [kF]) λσ7 u7 h7 hσ7 g6 s7=> ?_
 have g63:σ7 63= .int .i64 i:=(hσ7 63 (by omega) (by omega) (by omega)).trans (by simp [kF,f63])
 simp(disch:=first|omega|simp only[zz];try omega;done) only[↓reduceIte,go_sem,g63]
 refine⟨i+1,?_,by omega⟩
 rw[hI]
 have gσ: ∀j,j<63->j≠6->j≠8->j≠10->σ7 j=σ j:=λj q1 q2 q3 q4=>by
  rw[hσ7 j (by omega) q2 q4]
  simp only[kF]
  repeat rw[ah (by omega)]
 refine⟨u7,?_,?_,?_,?_,?_,?_,by simp [kF],hlt,st6.tZ s7,(s5.tZ s6).tZ s7⟩
 ·simp only[kF];repeat rw[ah (by omega)]
  exact(gσ 0 (by omega) (by omega) (by omega) (by omega)).trans f0
 ·simp only[kF];repeat rw[ah (by omega)]
  exact(gσ 4 (by omega) (by omega) (by omega) (by omega)).trans f4
 ·simp only[kF];repeat rw[ah (by omega)]
  exact(gσ 5 (by omega) (by omega) (by omega) (by omega)).trans f5
 ·simp only[kF];repeat rw[ah (by omega)]
  rw[hsn];exact g6
 ·simp only[kF];repeat rw[ah (by omega)]
  exact(gσ 61 (by omega) (by omega) (by omega) (by omega)).trans f61
 ·simp only[kF];repeat rw[ah (by omega)]
  exact(gσ 62 (by omega) (by omega) (by omega) (by omega)).trans f62
end Go.Proofs.Z
