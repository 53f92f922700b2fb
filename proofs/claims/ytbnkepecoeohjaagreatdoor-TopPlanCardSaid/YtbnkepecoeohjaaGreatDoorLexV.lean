/- A part of the proof. -/
import Derived.Test.YtbnkepecoeohjaaGreatDoorTq6
import Derived.Test.YtbnkepecoeohjaaGreatDoorTok
import Derived.Test.YtbnkepecoeohjaaGreatDoorEvC
set_option linter.all false
set_option maxRecDepth 100000
set_option maxHeartbeats 4000000
namespace Edict
def lK(t:Tok):List Go.Value:=[.int .i64 t.1,Go.Ev.str t.2.1,.int .i64 t.2.2.1,.int .i64 t.2.2.2.1,.int .i64 t.2.2.2.2.1,.int .i64 t.2.2.2.2.2]
def lM:List Go.Value:=[.int .i64 0,Go.Ev.str [],.int .i64 0,.int .i64 0,.int .i64 0,.int .i64 0]
def kT(c:Int)(o:Int):List Go.Value:=[.int .i64 c,.int .i64 0,.int .i64 o]
def Dl:TR->Go.Value
 | .ok t=> .tuple #[.agg (lK t).toArray,.agg (kT 0 0).toArray]
 | .bad c o=> .tuple #[.agg lM.toArray,.agg (kT c o).toArray]
end Edict
namespace Go.Proofs.Z
open Go Go.Ev Edict
variable {vs:List Value} {h:H} {K:Value->H->Prop} {KP:List PanicEntry->H->Prop}
theorem mE(s:List UInt8)(k:Nat):(s.getD k 0).toNat=kS s k:=rfl
theorem ahh:maxLen=9223372036854775807:=rfl
theorem wr8{n:Int}(h1:0<=n)(h2:n<=255):IntKind.u8.wrap n=n:=by
 have e:n % 256=n:=Int.emod_eq_of_lt h1 (by omega)
 unfold IntKind.wrap
 simp [IntKind.bits,IntKind.signed,e]
theorem kb{K:Value->H->Prop}{a b:Bool}{h:H}(e:b=a)(hK:K (.bool b) h):K (.bool a) h:=e▸hK
def Cc(f:Nat->Bool)(vs:List Value)(h:H)(K:Value->H->Prop):Prop:= ∃c:Nat,vs=[.int .u8 c]/\K (.bool (f c)) h
theorem uP(hC:Cc qB vs h K):ma Tryz.prog 126 vs h K KP:=by
 obtain⟨c,rfl,hK⟩:=hC
 refine kP 5 [(none,(.t 2))] (G:=(λ_ _ _ _ _=>False)) (λ_ _ _ _ _ h=>h.elim) Tryz.func126 (by kernel_rfl) (by conv=>lhs;cbv;try simp only[mF]) ?_
 simp(disch:=first|omega|simp only[zz];try omega;done) only[↓reduceIte,go_sem]
 exact kb (by unfold qB;apply dm.2;simp;omega) hK
def XR(c:Nat):Bool:=upB c || decide (c=95)
theorem Mx(hC:Cc XR vs h K):ma Tryz.prog 138 vs h K KP:=by
 obtain⟨c,rfl,hK⟩:=hC
 refine kP 5 [(none,(.t 2))] (G:=(λ_ _ _ _ _=>False)) (λ_ _ _ _ _ h=>h.elim) Tryz.func138 (by kernel_rfl) (by conv=>lhs;cbv;try simp only[mF]) ?_
 simp(disch:=first|omega|simp only[zz];try omega;done) only[↓reduceIte,go_sem]
 exact kb (by unfold XR upB;apply dm.2;simp;omega) hK
theorem Ce(hC:Cc Pw vs h K):ma Tryz.prog 139 vs h K KP:=by
 obtain⟨c,rfl,hK⟩:=hC
 refine kP 5 [(none,(.t 2))] (G:=(λ_ _ _ _ _=>False)) (λ_ _ _ _ _ h=>h.elim) Tryz.func139 (by kernel_rfl) (by conv=>lhs;cbv;try simp only[mF]) ?_
 simp(disch:=first|omega|simp only[zz];try omega;done) only[↓reduceIte,go_sem]
 exact kb (by unfold Pw;apply dm.2;simp;omega) hK
def GG:mG:=λf vs h K _=>(f=126/\Cc qB vs h K)\/(f=138/\Cc XR vs h K)\/(f=139/\Cc Pw vs h K)
theorem Jr:nz Tryz.prog GG:=mK uP (mK Mx (qd Ce))
theorem Ez(hC:Cc uJ vs h K):ma Tryz.prog 129 vs h K KP:=by
 obtain⟨c,rfl,hK⟩:=hC
 refine kP 5 [(none,(.t 2))] Jr Tryz.func129 (by kernel_rfl) (by conv=>lhs;cbv;try simp only[mF]) ?_
 have e:uJ c=(qB c || XR c || Pw c):=by unfold uJ XR;cases qB c<;>cases upB c<;>cases Pw c<;>simp
 rw[e]at hK
 cases h1:qB c<;>cases h2:XR c<;>cases h3:Pw c<;>simp only[h1,h2,h3,Bool.or_true,jY]at hK<;>
  (simp(disch:=first|omega|simp only[zz];try omega;done) only[↓reduceIte,go_sem,wo,GG,Cc,h1,h2,h3];exact hK)
def TA(vs:List Value)(h:H)(K:Value->H->Prop):Prop:= ∃(B:Nat) (s:List UInt8) (k j:Nat),vs=[.pointer (some ⟨B,0,none⟩),.int .i64 j]/\hsz h B=2/\hv h B 0=str s/\hv h B 1= .int .i64 k/\k<=s.length/\s.length<=65536/\j<=3/\K (.int .u8 (kS s (k+j))) h
theorem Kh(hC:TA vs h K):ma Tryz.prog 127 vs h K KP:=by
 obtain⟨B,s,k,j,rfl,hz,h0,h1,hk,hl,hj,hK⟩:=hC
 refine kP 65555 [(none,(.t 4))] (G:=(λ_ _ _ _ _=>False)) (λ_ _ _ _ _ h=>h.elim) Tryz.func127 (by kernel_rfl) (by conv=>lhs;cbv;try simp only[mF]) ?_
 have e1:(k:Int)+(j:Int)=((k+j:Nat):Int):=by omega
 by_cases hlt:k+j<s.length
 ·simp(disch:=first|omega|simp only[zz];try omega;done) only[↓reduceIte,go_sem,hz,h0,h1,e1,hlt,mE]
  exact hK
 ·rw[si (by omega)]at hK
  simp(disch:=first|omega|simp only[zz];try omega;done) only[↓reduceIte,go_sem,hz,h0,h1,e1,hlt]
  exact hK
def aaE(vs:List Value)(h:H)(K:Value->H->Prop):Prop:= ∃(B:Nat) (s:List UInt8) (k:Nat),vs=[.pointer (some ⟨B,0,none⟩),.int .i64 k]/\hsz h B=2/\hv h B 0=str s/\k<=s.length/\s.length<=65536/\K (.int .i64 (nG s k)) h
def MB:mG:=λf vs h K _=>(f=129/\Cc uJ vs h K)
theorem TC:nz Tryz.prog MB:=qd Ez
theorem Pt(hC:aaE vs h K):ma Tryz.prog 136 vs h K KP:=by
 obtain⟨B,s,k,rfl,hz,h0,hk,hl,hK⟩:=hC
 refine kP 1048595 [(none,(.t 4))] TC Tryz.func136 (by kernel_rfl) (by conv=>lhs;cbv;try simp only[mF]) ?_
 simp(disch:=first|omega|simp only[zz];try omega;done) only[↓reduceIte,go_sem]
 refine kH (fun(j:Nat) σ h'=>σ 0= .pointer (some ⟨B,0,none⟩)/\σ 1= .int .i64 j/\h'=h/\j<=s.length/\nG s j=nG s k) (λj=>s.length - j) k ⟨by simp [kF],by simp [kF],rfl,by omega,rfl⟩ ?_
 rintro j σ h' ⟨e0,e1,rfl,hj,he⟩
 by_cases hlt:j<s.length
 ·cases hw:uJ (kS s j)with
  |true=>
   simp(disch:=first|omega|simp only[zz];try omega;done) only[↓reduceIte,go_sem,wo,e0,e1,hz,h0,hlt,mE,MB,Cc,hw]
   exact⟨j+1,by simp,by omega,(xN hlt hw).symm.trans he,by omega⟩
  |false=>
   rw[tq (by rw[hw];simp)]at he
   subst he
   simp(disch:=first|omega|simp only[zz];try omega;done) only[↓reduceIte,go_sem,wo,e0,e1,hz,h0,hlt,mE,MB,Cc,hw]
   exact hK
 ·rw[tq (by omega)]at he
  subst he
  simp(disch:=first|omega|simp only[zz];try omega;done) only[↓reduceIte,go_sem,e0,e1,hz,h0,hlt,mE]
  exact hK
def Cf(vs:List Value)(h:H)(K:Value->H->Prop):Prop:= ∃(u:U) (p:Value) (c o:Int),vs=[p,.int .i64 c,.int .i64 o]/\ ∀u' h',kG S0 u h u' h'->K (.tuple #[.agg lM.toArray,.agg (kT c o).toArray]) h'
theorem xM(hC:Cf vs h K):ma Tryz.prog 125 vs h K KP:=by
 obtain⟨u,p,c,o,rfl,hK⟩:=hC
 refine kP 198 [((some (.c1 (.ldn 6) (.t 6))),(.o1 (.ldn 6) (.t 6))),((some (.c1 (.ldn 3) (.t 7))),(.o1 (.ldn 3) (.t 7)))] (G:=(λ_ _ _ _ _=>False)) (λ_ _ _ _ _ h=>h.elim) Tryz.func125 (by kernel_rfl) (by conv=>lhs;cbv;try simp only[mF]) ?_
 simp(disch:=first|omega|simp only[zz];try omega;done) only[↓reduceIte,go_sem]
 exact hK _ _ (by repeat (first|exact kG.refl _ _ _|assumption|apply kG.pZ))
theorem VD(c:Nat)(hc:c<256):(if qB c then(c:Int) - 48 else if 97<=c/\c<=102 then(c:Int) - 97+10 else if 65<=c/\c<=70 then(c:Int) - 65+10 else -1)=match Al c with|some a=>(a:Int)|none=> -1:=by
 unfold Al
 cases hd:qB c with
 |true=>simp only[dx];unfold qB at hd;simp at hd;rw[Int.ofNat_sub (by omega)];rfl
 |false=>
  simp only[aV,bZ]
  split
  ·simp only;omega
  ·split
   ·simp only;omega
   ·rfl
def ET(c:Nat):Int:=match Al c with|some a=>(a:Int)|none=> -1
def VE(vs:List Value)(h:H)(K:Value->H->Prop):Prop:= ∃c:Nat,vs=[.int .u8 c]/\c<256/\K (.int .i64 (ET c)) h
def Cg:mG:=λf vs h K _=>(f=126/\Cc qB vs h K)
theorem TD:nz Tryz.prog Cg:=qd uP
theorem aaF(hC:VE vs h K):ma Tryz.prog 144 vs h K KP:=by
 obtain⟨c,rfl,hc,hK⟩:=hC
 refine kP 1049101 [(none,(.t 2))] TD Tryz.func144 (by kernel_rfl) (by conv=>lhs;cbv;try simp only[mF]) ?_
 rw[ET,<-VD c hc]at hK
 cases hd:qB c with
 |true=>
  have hd':=hd
  unfold qB at hd';simp at hd'
  rw[hd,ay rfl]at hK
  simp(disch:=first|omega|simp only[zz];try omega;done) only[↓reduceIte,go_sem,wo,Cg,Cc,hd,wr8]
  exact hK
 |false=>
  rw[hd]at hK
  simp only[aV,bZ]at hK
  by_cases h1:97<=c/\c<=102
  ·rw[ay h1]at hK
   simp(disch:=first|omega|simp only[zz];try omega;done) only[↓reduceIte,go_sem,wo,Cg,Cc,hd,af (show(97:Int)<=(c:Int) by omega),af (show(c:Int)<=102 by omega),wr8]
   exact hK
  ·rw[ah h1]at hK
   by_cases h2:65<=c/\c<=70
   ·rw[ay h2]at hK
    simp(disch:=first|omega|simp only[zz];try omega;done) only[↓reduceIte,go_sem,wo,Cg,Cc,hd,au (show¬(97:Int)<=(c:Int) by omega),af (show(65:Int)<=(c:Int) by omega),af (show(c:Int)<=70 by omega),wr8]
    exact hK
   ·rw[ah h2]at hK
    simp(disch:=first|omega|simp only[zz];try omega;done) only[↓reduceIte,go_sem,wo,Cg,Cc,hd]
    exact⟨λh=>by omega,λ_=>⟨λh=>by omega,λ_=>hK⟩⟩
end Go.Proofs.Z
namespace Go.Ev
open Go
theorem kV.new{u:U}{h:H}(cs:List Value)(t:TypeId):kV (ub u h.size 0) (h.push (.cells cs.toArray t)) h.size cs:=
 ⟨by simp,by rw[Fx rfl],by rw[Fy rfl],acz,λi v hv=>by rw[LZ rfl,aO,hv];rfl⟩
theorem kV.other{u:U}{h:H}{b k:Nat}{cs l:List Value}{o:Nat}(A:kV u h b cs)(hk:b≠k):kV u (kU h k o l) b cs:=by
 obtain⟨h1,h2,h3,h4,h5⟩:=A
 refine⟨by rw[mX];exact h1,by rw[lu];exact h2,by rw[lw];exact h3,h4,λi v hv=> ?_⟩
 have:=h5 i v hv
 unfold Go.Ev.hv hc at this ⊢
 rw[zJ _ _ _ _ _ hk];exact this
theorem sW{S:Nat->Prop}{u0 u:U}{h0 h:H}{a b:Nat}{ca cb la lb:List Value}(st:kG S u0 h0 u h)(A:kV u h a ca)(B:kV u h b cb)(hab:a≠b)(ha:h0.size<=a)(hb:h0.size<=b)(hla:la.length=ca.length)(hlb:lb.length=cb.length):
  kG S u0 h0 u (kU (kU h a 0 la) b 0 lb)/\kV u (kU (kU h a 0 la) b 0 lb) a la/\kV u (kU (kU h a 0 la) b 0 lb) b lb/\ ∀i cs,kV u h i cs->i≠a->i≠b->kV u (kU (kU h a 0 la) b 0 lb) i cs:=by
 have hA:=A.2.2.2.1;have hB:=B.2.2.2.1
 have A1:=A.sets hla
 have B1:kV u (kU h a 0 la) b cb:=B.other (iB hab)
 have s1:=kG.rZ (l:=la) (o:=0) st (.inl ha) (by rw[hA];exact aH _) (by rw[A.2.1,hla];omega)
 have s2:=kG.rZ (l:=lb) (o:=0) s1 (.inl hb) (by rw[hB];exact aH _) (by rw[B1.2.1,hlb];omega)
 exact⟨s2,A1.other hab,B1.sets hlb,λi cs k hia hib=>(k.other hia).other hib⟩
end Go.Ev
namespace Go.Proofs.Z
open Go Go.Ev Edict
theorem ahg{s:List UInt8}{k e:Nat}(h:k<e)(he:e<=s.length):((s.take e).drop k).getD 0 0=s.getD k 0:=by
 simp only[aO,dz,dO,bV]
 rw[ay h]
theorem ah0{s:List UInt8}{k e:Nat}(h:k<=e)(he:e<=s.length):((s.take e).drop k).length=e - k:=by simp;omega
abbrev Mw(u:U)(h:H)(B:Nat)(s:List UInt8)(k:Nat):Prop:=kV u h B [str s,.int .i64 k]
def Ey(Gl:U->H->Prop)(F:List UInt8->Nat->TR)(oW:List UInt8->Nat->Prop)(vs:List Value)(h:H)(K:Value->H->Prop):Prop:= ∃(u:U) (B:Nat) (s:List UInt8) (k:Nat),vs=[.pointer (some ⟨B,0,none⟩)]/\Mw u h B s k/\k<=s.length/\s.length<=65536/\oW s k/\Gl u h/\
 ∀u' h',kG (λi=>i=B) u h u' h'->(∀t,F s k= .ok t->Mw u' h' B s t.2.2.2.2.2.toNat)->K (Dl (F s k)) h'
def noG:U->H->Prop:=λ_ _=>True
def aaD:mG:=λf vs h K _=>(f=139/\Cc Pw vs h K)\/(f=136/\aaE vs h K)\/(f=125/\Cf vs h K)
theorem Ps:nz Tryz.prog aaD:=mK Ce (mK Pt (qd xM))
theorem XQ{vs:List Value}{h:H}{K:Value->H->Prop}{KP:List PanicEntry->H->Prop}(hC:Ey noG rY (λs k=>k<s.length/\uJ (kS s k)=true) vs h K):ma Tryz.prog 130 vs h K KP:=by
 obtain⟨u,B,s,k,rfl,hB,hk,hl,⟨hlt,hw⟩,-,hK⟩:=hC
 have hr1:=vK hlt hw
 have hr2:=uQ s k hk
 have hB1:=hB.1
 refine kP 2216203255933 [((some (.c1 (.ldn 6) (.t 2))),(.o1 (.ldn 6) (.t 2))),((some (.c1 (.ldn 3) (.t 3))),(.o1 (.ldn 3) (.t 3)))] Ps Tryz.func130 (by kernel_rfl) (by conv=>lhs;cbv;try simp only[mF]) ?_
 have sp:kG (λi=>i=B) u h _ _:=kG.qZ (λi=>i=B) u h lM.toArray 177
 have T0:kV (ub u h.size 0) (h.push (.cells lM.toArray 177)) h.size lM:=kV.new lM _
 have sp1:=sp.pZ (c:=(kT 0 0).toArray) (t:=44)
 have T1:=T0.pZ (c:=(kT 0 0).toArray) (t:=44)
 have F1:kV (ub (ub u h.size 0) (h.size+1) 0) ((h.push (.cells lM.toArray 177)).push (.cells (kT 0 0).toArray 44)) (h.size+1) (kT 0 0):=by have:=kV.new (u:=ub u h.size 0) (h:=h.push (.cells lM.toArray 177)) (kT 0 0) 44;simpa only[yj]using this
 simp only[yj]at sp1 T1
 simp(disch:=first|omega|simp only[zz];try omega;done) only[↓reduceIte,go_sem,hB.at,hB.2.1]
 refine kD (.inr (.inl ⟨rfl,B,s,k,rfl,by simp(disch:=first|omega|simp only[zz];try omega;done) only[↓reduceIte,go_sem,hB.2.1],by simp(disch:=first|omega|simp only[zz];try omega;done) only[↓reduceIte,go_sem,hB.at],hk,hl,⟨kY,?_⟩⟩))
 obtain⟨e,he⟩:=kJ (nG s k)
 rw[<-he]at hr1 hr2 ⊢
 by_cases h64:64<e - k
 ·have hF:rY s k= .bad 14 k:=by unfold rY;rw[ay (by rw[<-he];exact h64)]
  rw[hF]at hK
  simp(disch:=first|omega|simp only[zz];try omega;done) only[↓reduceIte,go_sem,af (show(64:Int)<(e:Int) - (k:Int) by omega)]
  refine kD (.inr (.inr ⟨rfl,ub (ub u h.size 0) (h.size+1) 0,_,14,k,rfl,λu2 h2 s2=>⟨kY,?_⟩⟩))
  obtain⟨r1,r2,r3,-⟩:=sW (la:=lM) (lb:=kT 14 k) (sp1.tZ s2) (T1.sZ s2) (F1.sZ s2) (by omega) (by omega) (by omega) rfl rfl
  have T2:=T1.sZ s2
  have F2:=F1.sZ s2
  have T21:=T2.1;have F21:=F2.1
  simp only[lM,kT]at r1 r2 r3
  simp(disch:=first|omega|simp only[zz];try omega;done) only[↓reduceIte,go_sem,lM,kT,T2.2.1,T2.2.2.1,F2.2.1,F2.2.2.1,lu,lw,r2.at,r3.at,r2.2.1,r3.2.1]
  exact hK _ _ r1 (λt ht=>by cases ht)
 ·have hst:kG (λi=>i=B) u h u (lh h B 1 (.int .i64 e)):=kG.set u h _ rfl (by rw[hB.2.2.2.1];exact az _)
  have hB':Mw u (lh h B 1 (.int .i64 e)) B s e:=hB.set (i:=1) (v:= .int .i64 e) (by simp)
  have hsl:=ah0 (gZ hr1) hr2
  have hpos:(0:Int)<(((s.take e).drop k).length:Nat):=by omega
  by_cases hnot:sub s k e=[110,111,116]
  ·have hF:rY s k= .ok (10,[],0,0,k,e):=by unfold rY;rw[<-he,ah h64,ay hnot]
   rw[hF]at hK
   unfold sub at hnot
   simp(disch:=first|omega|simp only[zz];try omega;done) only[↓reduceIte,go_sem,au (show¬(64:Int)<(e:Int) - (k:Int) by omega),hB.at,hB.2.1,hB.2.2.1,af hnot,af hr2,af (gZ hr1)]
   exact hK _ _ (by repeat (first|exact kG.refl _ _ _|assumption|apply kG.pZ)) (λt ht=>by cases ht;exact(by repeat (first|assumption|apply kV.pZ)))
  ·cases hlo:Pw (kS s k)with
   |true=>
    have hF:rY s k= .ok (1,sub s k e,0,0,k,e):=by unfold rY;rw[<-he,ah h64,ah hnot,ay hlo]
    rw[hF]at hK
    unfold sub at hnot hK
    simp(disch:=first|omega|simp only[zz];try omega;done) only[↓reduceIte,go_sem,au (show¬(64:Int)<(e:Int) - (k:Int) by omega),hB.at,hB.2.1,hB.2.2.1,au hnot,af hr2,af (gZ hr1),af hpos]
    refine kD (.inl ⟨rfl,kS s k,by rw[ahg hr1 hr2];rfl,⟨kY,?_⟩⟩)
    rw[hlo]
    simp(disch:=first|omega|simp only[zz];try omega;done) only[↓reduceIte,go_sem]
    exact hK _ _ (by repeat (first|exact kG.refl _ _ _|assumption|apply kG.pZ)) (λt ht=>by cases ht;exact(by repeat (first|assumption|apply kV.pZ)))
   |false=>
    have hF:rY s k= .ok (2,sub s k e,0,0,k,e):=by unfold rY;rw[<-he,ah h64,ah hnot,hlo];rfl
    rw[hF]at hK
    unfold sub at hnot hK
    simp(disch:=first|omega|simp only[zz];try omega;done) only[↓reduceIte,go_sem,au (show¬(64:Int)<(e:Int) - (k:Int) by omega),hB.at,hB.2.1,hB.2.2.1,au hnot,af hr2,af (gZ hr1),af hpos]
    refine kD (.inl ⟨rfl,kS s k,by rw[ahg hr1 hr2];rfl,⟨kY,?_⟩⟩)
    rw[hlo]
    simp(disch:=first|omega|simp only[zz];try omega;done) only[↓reduceIte,go_sem]
    exact hK _ _ (by repeat (first|exact kG.refl _ _ _|assumption|apply kG.pZ)) (λt ht=>by cases ht;exact(by repeat (first|assumption|apply kV.pZ)))
end Go.Proofs.Z
namespace Go.Ev
open Go Rep
variable {u:U} {h:H} {k:IntKind} {b:Int} {k':IntKind} {a:Int} {op:BinOp}
instance repByte:Rep UInt8 where
 sz:=1
 rep _ _ s cs:=cs=[.int .u8 s.toNat]
 wf _:=True
 bulk _:=1
 szp:=Nat.one_pos
 len h:=by subst h;rfl
 ok h:=by subst h;rfl
 mono _ h:=h
 pos _:=aH _
theorem GD{n:UInt8}{cs:List Value}:rep u h n cs=(cs=[.int .u8 n.toNat]):=rfl
theorem VB:sz UInt8=1:=rfl
theorem aaA {G:mG} {d:Option Nat} {st:uw} {r:List St} {K:lm->H->Prop} {KP:List PanicEntry->H->Prop} {σ:lm} {k:Nat} {v:Value} {l:List UInt8} (ho:mr k u h v l)
  (hK:nS st σ h h/\mf G r K KP (qU σ d (str l)) h):sP G .b2s d st r K KP [v] σ h:=by
 rcases ho with⟨rfl,rfl⟩|⟨b,c,rfl,h1,h2,h3,h4,h5,h6,h7,h8⟩
 ·exact hK
 ·refine⟨by rw[h5,bY];rw[VB];omega,l,?_,hK⟩
  apply bW
  intro i
  by_cases hi:i<l.length
  ·have hx:=h8 i l[i] (by simp [hi])
   rw[VB,aZ,GD,oV]at hx
   simp only[sO,aR,bT hi,bH,bY]
   simp only[aG,aP]at hx
   rw[hx];simp [hi,BS]
  ·simp [sO,aW (show l.length<=i by omega)];omega
theorem afS:v2 (.bits op) (.int k a) (.int k' b) h= .int k (Eu op k a b):=(rfl)
theorem adu:s2 (.bits op) (.int k a) (.int k' b) h=(if xK op then 0<=b else k=k'):=by simp [s2,lI,ti,tk]
end Go.Ev
namespace Go.Proofs.Z
open Go Go.Ev Edict
variable {o:Nat} {s:List UInt8} {i:Nat} {acc:List UInt8}
variable {vs:List Value} {h:H} {K:Value->H->Prop} {KP:List PanicEntry->H->Prop}
theorem nib: ∀a<16,∀b<16,IntKind.u8.wrap (Eu .or .i64 (Eu .shl .i64 ((a:Nat):Int) 4) ((b:Nat):Int))=((a*16+b:Nat):Int):=by decide+kernel
theorem FB{c a:Nat}(h:Al c=some a):a<16:=by
 unfold Al qB at h
 split at h
 ·rename_i h1;simp at h1;cases h;omega
 ·split at h
  ·cases h;omega
  ·split at h<;>cases h;omega
def aes(vs:List Value)(h:H)(K:Value->H->Prop):Prop:= ∃(B:Nat) (s:List UInt8) (k:Nat),vs=[.pointer (some ⟨B,0,none⟩)]/\hsz h B=2/\hv h B 0=str s/\hv h B 1= .int .i64 k/\k<=s.length/\s.length<=65536/\K (.tuple #[.int .u8 (nU s k).1,.int .i64 (nU s k).2]) h
def Tz:mG:=λf vs h K _=>(f=127/\TA vs h K)\/(f=144/\VE vs h K)
theorem Jq:nz Tryz.prog Tz:=mK Kh (qd aaF)
theorem Pp(hC:aes vs h K):ma Tryz.prog 140 vs h K KP:=by
 obtain⟨B,s,k,rfl,hz,h0,h1,hk,hl,hK⟩:=hC
 refine kP 2147833277 [(none,(.t 2)),(none,(.t 3))] Jq Tryz.func140 (by kernel_rfl) (by conv=>lhs;cbv;try simp only[mF]) ?_
 simp(disch:=first|omega|simp only[zz];try omega;done) only[↓reduceIte,go_sem]
 refine kD (.inl ⟨rfl,B,s,k,1,rfl,hz,h0,h1,hk,hl,by omega,⟨kY,?_⟩⟩)
 unfold nU at hK
 obtain⟨c,hc⟩:=kJ (kS s (k+1))
 rw[<-hc]at hK ⊢
 by_cases q1:c=34
 ·rw[ay q1]at hK
  simp(disch:=first|omega|simp only[zz];try omega;done) only[↓reduceIte,go_sem,af (show(c:Int)=34 by omega)]
  exact hK
 rw[ah q1]at hK
 by_cases q2:c=92
 ·rw[ay q2]at hK
  simp(disch:=first|omega|simp only[zz];try omega;done) only[↓reduceIte,go_sem,au (show¬(c:Int)=34 by omega),af (show(c:Int)=92 by omega)]
  exact hK
 rw[ah q2]at hK
 by_cases q3:c=110
 ·rw[ay q3]at hK
  simp(disch:=first|omega|simp only[zz];try omega;done) only[↓reduceIte,go_sem,au (show¬(c:Int)=34 by omega),au (show¬(c:Int)=92 by omega),af (show(c:Int)=110 by omega)]
  exact hK
 rw[ah q3]at hK
 by_cases q4:c=116
 ·rw[ay q4]at hK
  simp(disch:=first|omega|simp only[zz];try omega;done) only[↓reduceIte,go_sem,au (show¬(c:Int)=34 by omega),au (show¬(c:Int)=92 by omega),au (show¬(c:Int)=110 by omega),af (show(c:Int)=116 by omega)]
  exact hK
 rw[ah q4]at hK
 by_cases q5:c=114
 ·rw[ay q5]at hK
  simp(disch:=first|omega|simp only[zz];try omega;done) only[↓reduceIte,go_sem,au (show¬(c:Int)=34 by omega),au (show¬(c:Int)=92 by omega),au (show¬(c:Int)=110 by omega),au (show¬(c:Int)=116 by omega),af (show(c:Int)=114 by omega)]
  exact hK
 rw[ah q5]at hK
 by_cases q6:c=120
 ·rw[ay q6]at hK
  simp(disch:=first|omega|simp only[zz];try omega;done) only[↓reduceIte,go_sem,au (show¬(c:Int)=34 by omega),au (show¬(c:Int)=92 by omega),au (show¬(c:Int)=110 by omega),au (show¬(c:Int)=116 by omega),au (show¬(c:Int)=114 by omega),af (show(c:Int)=120 by omega)]
  refine kD (.inl ⟨rfl,B,s,k,2,rfl,hz,h0,h1,hk,hl,by omega,⟨kY,?_⟩⟩)
  simp(disch:=first|omega|simp only[zz];try omega;done) only[↓reduceIte,go_sem,Vs]
  refine kD (.inr ⟨rfl,_,rfl,yO _ _,⟨kY,?_⟩⟩)
  simp(disch:=first|omega|simp only[zz];try omega;done) only[↓reduceIte,go_sem,Vs]
  refine kD (.inl ⟨rfl,B,s,k,3,rfl,hz,h0,h1,hk,hl,by omega,⟨kY,?_⟩⟩)
  simp(disch:=first|omega|simp only[zz];try omega;done) only[↓reduceIte,go_sem,Vs]
  refine kD (.inr ⟨rfl,_,rfl,yO _ _,⟨kY,?_⟩⟩)
  unfold ET
  cases ha:Al (kS s (k+2))with
  |none=>
   rw[ha]at hK
   simp only at hK
   simp(disch:=first|omega|simp only[zz];try omega;done) only[↓reduceIte,go_sem,Vs]
   exact hK
  |some a=>
   cases hb:Al (kS s (k+3))with
   |none=>
    rw[ha,hb]at hK
    simp only at hK
    simp(disch:=first|omega|simp only[zz];try omega;done) only[↓reduceIte,go_sem,Vs]
    exact hK
   |some b=>
    rw[ha,hb]at hK
    simp only at hK
    have hn:=nib a (FB ha) b (FB hb)
    simp(disch:=first|omega|simp only[zz];try omega;done) only[↓reduceIte,go_sem,afS,adu,xK,hn]
    exact hK
 ·rw[ah q6]at hK
  simp(disch:=first|omega|simp only[zz];try omega;done) only[↓reduceIte,go_sem,au (show¬(c:Int)=34 by omega),au (show¬(c:Int)=92 by omega),au (show¬(c:Int)=110 by omega),au (show¬(c:Int)=116 by omega),au (show¬(c:Int)=114 by omega),au (show¬(c:Int)=120 by omega)]
  exact hK
def aaB:mG:=λf vs h K _=>(f=140/\aes vs h K)\/(f=125/\Cf vs h K)
theorem Pq:nz Tryz.prog aaB:=mK Pp (qd xM)
theorem Cb(h: ¬(i<s.length/\32<=kS s i)):mU s o i acc= .bad 11 o:=by rw[mU,ah h]
theorem adw(h:i<s.length)(hc:kS s i=34):mU s o i acc= .ok (4,acc,0,0,o,(i+1:Nat)):=by rw[mU,ay ⟨h,by omega⟩,ay hc]
theorem VC(h:i<s.length)(hc:kS s i=92):mU s o i acc=if(nU s i).2=0 then .bad 12 i else if acc.length=255 then .bad 15 o else mU s o (i+(nU s i).2) (acc++[UInt8.ofNat (nU s i).1]):=by
 rw[mU,ay ⟨h,by omega⟩,ah (by omega),ay hc]
theorem aaC(h:i<s.length)(h32:32<=kS s i)(h34:kS s i≠34)(h92:kS s i≠92):mU s o i acc=if acc.length=255 then .bad 15 o else mU s o (i+1) (acc++[UInt8.ofNat (kS s i)]):=by
 rw[mU,ay ⟨h,h32⟩,ah h34,ah h92]
theorem zQ{n:Nat}(h:n<256):(UInt8.ofNat n).toNat=n:=by simpa using h
theorem XP(hC:Ey noG (λs k=>mU s k (k+1) []) (λs k=>k<s.length) vs h K):ma Tryz.prog 131 vs h K KP:=by
 obtain⟨u,B,s,k,rfl,hB,hk,hl,hlt,-,hK⟩:=hC
 have hK: ∀u' h',kG (λi=>i=B) u h u' h'->(∀t,mU s k (k+1) []= .ok t->Mw u' h' B s t.2.2.2.2.2.toNat)->K (Dl (mU s k (k+1) [])) h':=hK
 have hB1:=hB.1
 refine kP 4954196898318740530076319997 [((some (.c1 (.ldn 6) (.t 2))),(.o1 (.ldn 6) (.t 2))),((some (.c1 (.ldn 3) (.t 3))),(.o1 (.ldn 3) (.t 3)))] Pq Tryz.func131 (by kernel_rfl) (by apply c0 rfl;repeat' first|apply cS|apply cK|apply cL|apply cX|(apply cC (by decide))|with_reducible exact cV 4 (.sts [(zk .nilck (.t 0)),(zg 1 (.t 0)),(zh (zf 1 (.t 0))),(zk .nilck (.t 0)),(zg 0 (.t 0)),(zh (zf 0 (.t 0))),(zk .lens (zl (zf 0 (.t 0)))),(zq .geq (zl (zf 1 (.t 0))) (.o1 .lens (zl (zf 0 (.t 0))))),(.chk [((zb .geq (zl (zf 1 (.t 0))) (.o1 .lens (zl (zf 0 (.t 0))))),false)] (.c1 .nilck (.t 0))),(.chk [((zb .geq (zl (zf 1 (.t 0))) (.o1 .lens (zl (zf 0 (.t 0))))),false)] (.c1 (.fld 0) (.t 0))),(.chk [((zb .geq (zl (zf 1 (.t 0))) (.o1 .lens (zl (zf 0 (.t 0))))),false)] (.c1 .ld1 (zf 0 (.t 0)))),(.chk [((zb .geq (zl (zf 1 (.t 0))) (.o1 .lens (zl (zf 0 (.t 0))))),false)] (.c1 .nilck (.t 0))),(.chk [((zb .geq (zl (zf 1 (.t 0))) (.o1 .lens (zl (zf 0 (.t 0))))),false)] (.c1 (.fld 1) (.t 0))),(.chk [((zb .geq (zl (zf 1 (.t 0))) (.o1 .lens (zl (zf 0 (.t 0))))),false)] (.c1 .ld1 (zf 1 (.t 0)))),(.chk [((zb .geq (zl (zf 1 (.t 0))) (.o1 .lens (zl (zf 0 (.t 0))))),false)] (.c2 .idxS (zl (zf 0 (.t 0))) (zl (zf 1 (.t 0))))),(.chk [((zb .geq (zl (zf 1 (.t 0))) (.o1 .lens (zl (zf 0 (.t 0))))),false)] (.c2 (.bin .lss) (.o2 .idxS (zl (zf 0 (.t 0))) (zl (zf 1 (.t 0)))) (.c (.int .u8 32)))),(.chk [] (.c3 .pick (zb .geq (zl (zf 1 (.t 0))) (.o1 .lens (zl (zf 0 (.t 0))))) (.c (.bool true)) (zb .lss (.o2 .idxS (zl (zf 0 (.t 0))) (zl (zf 1 (.t 0)))) (.c (.int .u8 32))))),(.set 40 (.o3 .pick (zb .geq (zl (zf 1 (.t 0))) (.o1 .lens (zl (zf 0 (.t 0))))) (.c (.bool true)) (zb .lss (.o2 .idxS (zl (zf 0 (.t 0))) (zl (zf 1 (.t 0)))) (.c (.int .u8 32)))))]) (by kernel_rfl)|(conv=>lhs;cbv;try simp only[mF])) ?_
 have hst:kG (λi=>i=B) u h u (lh h B 1 (.int .i64 ((k:Int)+1))):=kG.set u h _ rfl (by rw[hB.2.2.2.1];exact az _)
 have hB':Mw u (lh h B 1 (.int .i64 ((k:Int)+1))) B s (k+1):=hB.set (i:=1) (v:= .int .i64 ((k:Int)+1)) (by simp)
 have hsz:(lh h B 1 (.int .i64 ((k:Int)+1))).size=h.size:=by rw[qz]
 have sp1:=(hst.pZ (c:=lM.toArray) (t:=177)).pZ (c:=(kT 0 0).toArray) (t:=44)
 have b1:=(hB'.pZ (c:=lM.toArray) (t:=177)).pZ (c:=(kT 0 0).toArray) (t:=44)
 have T1:=(kV.new (u:=u) (h:=lh h B 1 (.int .i64 ((k:Int)+1))) lM 177).pZ (c:=(kT 0 0).toArray) (t:=44)
 have F1:=kV.new (u:=ub u (lh h B 1 (.int .i64 ((k:Int)+1))).size 0) (h:=(lh h B 1 (.int .i64 ((k:Int)+1))).push (.cells lM.toArray 177)) (kT 0 0) 44
 simp only[yj,hsz]at sp1 b1 T1 F1
 simp(disch:=first|omega|simp only[zz];try omega;done) only[↓reduceIte,go_sem,hB.at,hB.2.1,hB.2.2.1]
 obtain⟨I,hI⟩: ∃I:Nat×List UInt8->lm->H->Prop,I=λx σ h'=>σ 0= .pointer (some ⟨B,0,none⟩)/\σ 2= .pointer (some ⟨h.size,0,none⟩)/\σ 3= .pointer (some ⟨h.size+1,0,none⟩)/\σ 4= .int .i64 k/\k<x.1/\x.1<=s.length/\x.2.length<=255/\mU s k x.1 x.2=mU s k (k+1) []/\
   ∃u',kG (λi=>i=B) u h u' h'/\Mw u' h' B s x.1/\kV u' h' h.size lM/\kV u' h' (h.size+1) (kT 0 0)/\mr (h.size+2) u' h' (σ 5) x.2:=⟨_,rfl⟩
 refine kH I (λx=>s.length - x.1) (k+1,[]) (by
  rw[hI]
  exact⟨by simp [kF],by simp [kF],by simp [kF],by simp [kF],by simp,by simp only;omega,by simp,rfl,_,sp1,b1,T1,F1,by simpa [kF]using mr.nil _ _ _⟩) ?_
 clear sp1 b1 T1 F1 hB' hst
 rintro ⟨i,acc⟩ σ h1 hy
 rw[hI]at hy
 obtain⟨e0,e2,e3,e4,hki,hi,hal,hF,u1,st,b,T,F,ho⟩:=hy
 simp only at hki hi hal hF b ho
 rw[<-hF]at hK
 have hb1:=b.1;have hT1:=T.1;have hF1:=F.1
 obtain⟨oa,oc,hoe,ho1,ho2⟩:=ho.sl
 by_cases h32:i<s.length/\32<=kS s i
 ·obtain⟨hil,h32⟩:=h32
  by_cases h34:kS s i=34
  ·rw[adw hil h34]at hK
   have hst2:=st.setR (o:=1) (v:= .int .i64 ((i:Int)+1)) (.inr rfl) (by rw[b.2.2.2.1];exact az _)
   have b2:Mw u1 (lh h1 B 1 (.int .i64 ((i:Int)+1))) B s (i+1):=b.set (i:=1) (v:= .int .i64 ((i:Int)+1)) (by simp)
   have ss:=kG.set (S:=λi=>i=B) u1 h1 (o:=1) (.int .i64 ((i:Int)+1)) (b:=B) rfl (by rw[b.2.2.2.1];exact az _)
   have T2:=T.step ss (by omega)
   have F2:=F.step ss (by omega)
   have o2:=ho.step ss (λq hq hB=>by have:=ho.ge hq;omega)
   obtain⟨r1,r2,r3,r4⟩:=sW (la:=[.int .i64 4,str acc,.int .i64 0,.int .i64 0,.int .i64 k,.int .i64 ((i+1:Nat))]) (lb:=kT 0 0) hst2 T2 F2 (by omega) (by omega) (by omega) rfl rfl
   have b3:=r4 B _ b2 (by omega) (by omega)
   simp only[kT]at r1 r2 r3 b3
   have T22:=T2.2.1
   have F22:=F2.2.1
   simp only[lM,kT,aM,bg]at T22 F22
   simp(disch:=first|omega|simp only[zz];try omega;done) only[↓reduceIte,go_sem,e0,b.at,b.2.1,b.2.2.1,af hil,mE,af (show(kS s i:Int)=34 by omega),au (show¬(kS s i:Int)<32 by omega),au (show¬(s.length:Int)<=(i:Int) by omega)]
   refine aaA o2 ⟨by simp(disch:=first|omega|simp only[zz];try omega;done) only[↓reduceIte,go_sem,e0,b2.at,b2.2.1],?_⟩
   have T21:=T2.1
   have F21:=F2.1
   simp(disch:=first|omega|simp only[zz];try omega;done) only[↓reduceIte,go_sem,e2,e3,e4,b2.at,T22,T2.2.2.1,F22,F2.2.2.1,lu,lw,r2.at,r3.at,r2.2.1,r3.2.1]
   exact hK _ _ r1 (λt ht=>by cases ht;exact b3)
  ·by_cases h92:kS s i=92
   ·rw[VC hil h92]at hK
    simp(disch:=first|omega|simp only[zz];try omega;done) only[↓reduceIte,go_sem,e0,b.at,b.2.1,mE,af hil,au (show¬(kS s i:Int)=34 by omega),af (show(kS s i:Int)=92 by omega),au (show¬(kS s i:Int)<32 by omega),au (show¬(s.length:Int)<=(i:Int) by omega)]
    refine kD (.inl ⟨rfl,B,s,i,rfl,b.2.1,b.at 0 (by simp),b.at 1 (by simp),hi,hl,⟨kY,?_⟩⟩)
    have hesc:=tH s i
    have hc256:=Px s i
    obtain⟨⟨c,n⟩,hcn⟩: ∃x,x=nU s i:=⟨_,rfl⟩
    rw[<-hcn]at hK hesc hc256 ⊢
    simp only at hK hesc hc256 ⊢
    by_cases hn0:n=0
    ·rw[ay hn0]at hK
     simp(disch:=first|omega|simp only[zz];try omega;done) only[↓reduceIte,go_sem,e0,b.at,b.2.1,af (show(n:Int)=0 by omega)]
     refine kD (.inr ⟨rfl,u1,_,12,i,rfl,λu2 h2 s2=>⟨kY,?_⟩⟩)
     have T2:=T.sZ s2
     have F2:=F.sZ s2
     obtain⟨r1,r2,r3,-⟩:=sW (la:=lM) (lb:=kT 12 i) (st.tZ s2) T2 F2 (by omega) (by omega) (by omega) rfl rfl
     have T21:=T2.1
     have F21:=F2.1
     simp only[lM,kT]at r1 r2 r3
     simp(disch:=first|omega|simp only[zz];try omega;done) only[↓reduceIte,go_sem,e2,e3,lM,kT,T2.2.1,T2.2.2.1,F2.2.1,F2.2.2.1,lu,lw,r2.at,r3.at,r2.2.1,r3.2.1]
     exact hK _ _ r1 (λt ht=>by cases ht)
    ·rw[ah hn0]at hK
     by_cases h255:acc.length=255
     ·rw[ay h255]at hK
      simp(disch:=first|omega|simp only[zz];try omega;done) only[↓reduceIte,go_sem,e0,e4,hoe,au (show¬(n:Int)=0 by omega),af (show(acc.length:Int)=255 by omega)]
      refine kD (.inr ⟨rfl,u1,_,15,k,rfl,λu2 h2 s2=>⟨kY,?_⟩⟩)
      have T2:=T.sZ s2
      have F2:=F.sZ s2
      obtain⟨r1,r2,r3,-⟩:=sW (la:=lM) (lb:=kT 15 k) (st.tZ s2) T2 F2 (by omega) (by omega) (by omega) rfl rfl
      have T21:=T2.1
      have F21:=F2.1
      simp only[lM,kT]at r1 r2 r3
      simp(disch:=first|omega|simp only[zz];try omega;done) only[↓reduceIte,go_sem,e2,e3,lM,kT,T2.2.1,T2.2.2.1,F2.2.1,F2.2.2.1,lu,lw,r2.at,r3.at,r2.2.1,r3.2.1]
      exact hK _ _ r1 (λt ht=>by cases ht)
     ·rw[ah h255]at hK
      have hnx:mU s k i acc=mU s k (i+n) (acc++[UInt8.ofNat c]):=by rw[VC hil h92,<-hcn];simp only;rw[ah hn0,ah h255]
      simp(disch:=first|omega|simp only[zz];try omega;done) only[↓reduceIte,go_sem,hoe,au (show¬(n:Int)=0 by omega),au (show¬(acc.length:Int)=255 by omega)]
      rw[<-hoe]
      refine JR (k:=h.size+2) (x:=UInt8.ofNat (c)) (cs:=[.int .u8 (c:Nat)]) ho (by rw[GD,zQ hc256]) rfl rfl (by omega) (by omega) λa n' k' u2 h2 ho2 s2=>⟨kY,?_⟩
      have hnb: ∀q,kN (σ 5) q->h.size+2<=q:=λq hq=>ho.ge hq
      have b2:=b.step s2 (λhq=>by have:=hnb _ hq;omega)
      have T2:=T.step s2 (λhq=>by have:=hnb _ hq;omega)
      have F2:=F.step s2 (λhq=>by have:=hnb _ hq;omega)
      have b21:=b2.1
      have st2:=st.trans s2 (λq hq hQ=>by have:=hnb _ hQ;omega)
      simp(disch:=first|omega|simp only[zz];try omega;done) only[↓reduceIte,go_sem,e0,b2.at,b2.2.1,b2.2.2.1]
      have ss:=kG.set (S:=λi=>i=B) u2 h2 (o:=1) (.int .i64 (((i+(n):Nat):Int))) (b:=B) rfl (by rw[b2.2.2.2.1];exact az _)
      have st3:=st2.setR (o:=1) (v:= .int .i64 (((i+(n):Nat):Int))) (.inr rfl) (by rw[b2.2.2.2.1];exact az _)
      have b3:Mw u2 (lh h2 B 1 (.int .i64 (((i+(n):Nat):Int)))) B s (i+(n)):=b2.set (i:=1) (by simp)
      have ei:((i:Int)+(((n:Nat)):Int))=((i+(n):Nat):Int):=by omega
      try rw[show((i:Int)+1)=((i+1:Nat):Int) by omega]
      try rw[ei]
      refine⟨(i+(n),acc++[UInt8.ofNat (c)]),?_,by simp only;omega⟩
      rw[hI]
      exact⟨by simp [kF,e0],by simp [kF,e2],by simp [kF,e3],by simp [kF,e4],by simp only;omega,by simp only;omega,by simp;omega,hnx.symm.trans hF,u2,st3,b3,T2.step ss (by omega),F2.step ss (by omega),by simpa [kF]using ho2.step ss (λq hq hQ=>by have:=ho2.ge hq;omega)⟩
   ·rw[aaC hil h32 h34 h92]at hK
    have hc256:=yO s i
    by_cases h255:acc.length=255
    ·rw[ay h255]at hK
     simp(disch:=first|omega|simp only[zz];try omega;done) only[↓reduceIte,go_sem,e0,e4,hoe,b.at,b.2.1,mE,af hil,au (show¬(kS s i:Int)=34 by omega),au (show¬(kS s i:Int)=92 by omega),au (show¬(kS s i:Int)<32 by omega),au (show¬(s.length:Int)<=(i:Int) by omega),af (show(acc.length:Int)=255 by omega)]
     refine kD (.inr ⟨rfl,u1,_,15,k,rfl,λu2 h2 s2=>⟨kY,?_⟩⟩)
     have T2:=T.sZ s2
     have F2:=F.sZ s2
     obtain⟨r1,r2,r3,-⟩:=sW (la:=lM) (lb:=kT 15 k) (st.tZ s2) T2 F2 (by omega) (by omega) (by omega) rfl rfl
     have T21:=T2.1
     have F21:=F2.1
     simp only[lM,kT]at r1 r2 r3
     simp(disch:=first|omega|simp only[zz];try omega;done) only[↓reduceIte,go_sem,e2,e3,lM,kT,T2.2.1,T2.2.2.1,F2.2.1,F2.2.2.1,lu,lw,r2.at,r3.at,r2.2.1,r3.2.1]
     exact hK _ _ r1 (λt ht=>by cases ht)
    ·rw[ah h255]at hK
     have hnx:mU s k i acc=mU s k (i+1) (acc++[UInt8.ofNat (kS s i)]):=by rw[aaC hil h32 h34 h92,ah h255]
     simp(disch:=first|omega|simp only[zz];try omega;done) only[↓reduceIte,go_sem,e0,hoe,b.at,b.2.1,mE,af hil,au (show¬(kS s i:Int)=34 by omega),au (show¬(kS s i:Int)=92 by omega),au (show¬(kS s i:Int)<32 by omega),au (show¬(s.length:Int)<=(i:Int) by omega),au (show¬(acc.length:Int)=255 by omega)]
     rw[<-hoe]
     refine JR (k:=h.size+2) (x:=UInt8.ofNat (kS s i)) (cs:=[.int .u8 (kS s i:Nat)]) ho (by rw[GD,zQ hc256]) rfl rfl (by omega) (by omega) λa n' k' u2 h2 ho2 s2=>⟨kY,?_⟩
     have hnb: ∀q,kN (σ 5) q->h.size+2<=q:=λq hq=>ho.ge hq
     have b2:=b.step s2 (λhq=>by have:=hnb _ hq;omega)
     have T2:=T.step s2 (λhq=>by have:=hnb _ hq;omega)
     have F2:=F.step s2 (λhq=>by have:=hnb _ hq;omega)
     have b21:=b2.1
     have st2:=st.trans s2 (λq hq hQ=>by have:=hnb _ hQ;omega)
     simp(disch:=first|omega|simp only[zz];try omega;done) only[↓reduceIte,go_sem,e0,b2.at,b2.2.1,b2.2.2.1]
     have ss:=kG.set (S:=λi=>i=B) u2 h2 (o:=1) (.int .i64 (((i+(1):Nat):Int))) (b:=B) rfl (by rw[b2.2.2.2.1];exact az _)
     have st3:=st2.setR (o:=1) (v:= .int .i64 (((i+(1):Nat):Int))) (.inr rfl) (by rw[b2.2.2.2.1];exact az _)
     have b3:Mw u2 (lh h2 B 1 (.int .i64 (((i+(1):Nat):Int)))) B s (i+(1)):=b2.set (i:=1) (by simp)
     have ei:((i:Int)+(((1:Nat)):Int))=((i+(1):Nat):Int):=by omega
     try rw[show((i:Int)+1)=((i+1:Nat):Int) by omega]
     try rw[ei]
     refine⟨(i+(1),acc++[UInt8.ofNat (kS s i)]),?_,by simp only;omega⟩
     rw[hI]
     exact⟨by simp [kF,e0],by simp [kF,e2],by simp [kF,e3],by simp [kF,e4],by simp only;omega,by simp only;omega,by simp;omega,hnx.symm.trans hF,u2,st3,b3,T2.step ss (by omega),F2.step ss (by omega),by simpa [kF]using ho2.step ss (λq hq hQ=>by have:=ho2.ge hq;omega)⟩
 ·rw[Cb h32]at hK
  by_cases hil:i<s.length
  ·simp(disch:=first|omega|simp only[zz];try omega;done) only[↓reduceIte,go_sem,e0,e4,b.at,b.2.1,mE,af hil,af (show(kS s i:Int)<32 by omega),au (show¬(s.length:Int)<=(i:Int) by omega)]
   refine kD (.inr ⟨rfl,u1,_,11,k,rfl,λu2 h2 s2=>⟨kY,?_⟩⟩)
   have T2:=T.sZ s2
   have F2:=F.sZ s2
   obtain⟨r1,r2,r3,-⟩:=sW (la:=lM) (lb:=kT 11 k) (st.tZ s2) T2 F2 (by omega) (by omega) (by omega) rfl rfl
   have T21:=T2.1
   have F21:=F2.1
   simp only[lM,kT]at r1 r2 r3
   simp(disch:=first|omega|simp only[zz];try omega;done) only[↓reduceIte,go_sem,e2,e3,lM,kT,T2.2.1,T2.2.2.1,F2.2.1,F2.2.2.1,lu,lw,r2.at,r3.at,r2.2.1,r3.2.1]
   exact hK _ _ r1 (λt ht=>by cases ht)
  ·simp(disch:=first|omega|simp only[zz];try omega;done) only[↓reduceIte,go_sem,e0,e4,b.at,b.2.1,mE,af (show(s.length:Int)<=(i:Int) by omega)]
   refine kD (.inr ⟨rfl,u1,_,11,k,rfl,λu2 h2 s2=>⟨kY,?_⟩⟩)
   have T2:=T.sZ s2
   have F2:=F.sZ s2
   obtain⟨r1,r2,r3,-⟩:=sW (la:=lM) (lb:=kT 11 k) (st.tZ s2) T2 F2 (by omega) (by omega) (by omega) rfl rfl
   have T21:=T2.1
   have F21:=F2.1
   simp only[lM,kT]at r1 r2 r3
   simp(disch:=first|omega|simp only[zz];try omega;done) only[↓reduceIte,go_sem,e2,e3,lM,kT,T2.2.1,T2.2.2.1,F2.2.1,F2.2.2.1,lu,lw,r2.at,r3.at,r2.2.1,r3.2.1]
   exact hK _ _ r1 (λt ht=>by cases ht)
end Go.Proofs.Z
