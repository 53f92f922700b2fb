/- A part of the proof. -/
import Derived.Test.YtgjkkjeakagomaaGreatDoorRefS
import Derived.Test.YtgjkkjeakagomaaGreatDoorTok
import Derived.Test.YtgjkkjeakagomaaGreatDoorData
set_option linter.all false
set_option maxRecDepth 100000
set_option maxHeartbeats 4000000
open Go.Value renaming int→Jx
open Go.IntKind renaming i64→JT
namespace Edict
def kU(t:kR):List Go.Value:=[Jx JT t.1,Go.Ev.str t.2.1,Jx JT t.2.2.1,Jx JT t.2.2.2.1,Jx JT t.2.2.2.2.1,Jx JT t.2.2.2.2.2]
def jV:List Go.Value:=[Jx JT 0,Go.Ev.str [],Jx JT 0,Jx JT 0,Jx JT 0,Jx JT 0]
def jH(c:Int)(o:Int):List Go.Value:=[Jx JT c,Jx JT 0,Jx JT o]
def qw:TR->Go.Value
 | .ok t=> .tuple #[.agg (kU t).toArray,.agg (jH 0 0).toArray]
 | .bad c o=> .tuple #[.agg jV.toArray,.agg (jH c o).toArray]
end Edict
namespace Go.Proofs.Z
open Go Go.Ev Edict
variable {vs:List Value} {h:H} {K:Value->H->Prop} {KP:List PanicEntry->H->Prop}
theorem qD(s:List UInt8)(k:Nat):(s.getD k 0).toNat=kY s k:=rfl
theorem wr8{n:Int}(h1:0<=n)(h2:n<=255):IntKind.u8.wrap n=n:=by
 have e:n % 256=n:=Int.emod_eq_of_lt h1 zO
 unfold IntKind.wrap
 simp [IntKind.bits,IntKind.signed,e]
theorem kb{K:Value->H->Prop}{a b:Bool}{h:H}(e:b=a)(hK:K (.bool b) h):K (.bool a) h:=e▸hK
def xE(f:Nat->Bool)(vs:List Value)(h:H)(K:Value->H->Prop):Prop:= ∃c:Nat,vs=[.int .u8 c]/\K (.bool (f c)) h
theorem uV(hC:xE pg vs h K):kN Tryz.prog 137 vs h K KP:=by
 obtain⟨c,rfl,hK⟩:=hC
 refine jJ 5 [(none,(.t 2))] (G:=(λ_ _ _ _ _=>False)) (λ_ _ _ _ _ h=>h.elim) Tryz.func137 ?_
 simp only[↓reduceIte,go_sem]
 exact kb (by unfold pg;apply bS.2;simp;omega) hK
def ZF(c:Nat):Bool:=Iw c || decide (c=95)
theorem Nz(hC:xE ZF vs h K):kN Tryz.prog 160 vs h K KP:=by
 obtain⟨c,rfl,hK⟩:=hC
 refine jJ 5 [(none,(.t 2))] (G:=(λ_ _ _ _ _=>False)) (λ_ _ _ _ _ h=>h.elim) Tryz.func160 ?_
 simp only[↓reduceIte,go_sem]
 exact kb (by unfold ZF Iw;apply bS.2;simp;omega) hK
theorem Dj(hC:xE Iy vs h K):kN Tryz.prog 161 vs h K KP:=by
 obtain⟨c,rfl,hK⟩:=hC
 refine jJ 5 [(none,(.t 2))] (G:=(λ_ _ _ _ _=>False)) (λ_ _ _ _ _ h=>h.elim) Tryz.func161 ?_
 simp only[↓reduceIte,go_sem]
 exact kb (by unfold Iy;apply bS.2;simp;omega) hK
def Iu:lq:=λf vs h K _=>(f=137/\xE pg vs h K)\/(f=160/\xE ZF vs h K)\/(f=161/\xE Iy vs h K)
theorem KC:lQ Tryz.prog Iu:=lY uV (lY Nz (pX Dj))
theorem FD(hC:xE zw vs h K):kN Tryz.prog 140 vs h K KP:=by
 obtain⟨c,rfl,hK⟩:=hC
 refine jJ 5 [(none,(.t 2))] KC Tryz.func140 ?_
 have e:zw c=(pg c || ZF c || Iy c):=by unfold zw ZF;cases pg c<;>cases Iw c<;>cases Iy c<;>simp
 rw[e]at hK
 cases h1:pg c<;>cases h2:ZF c<;>cases h3:Iy c<;>simp only[h1,h2,h3,iK,ik]at hK<;>
  (simp only[↓reduceIte,go_sem,nE,Iu,xE,h1,h2,h3];exact hK)
def UK(vs:List Value)(h:H)(K:Value->H->Prop):Prop:= ∃(B:Nat) (s:List UInt8) (k j:Nat),vs=[.pointer (some ⟨B,0,none⟩),Jx JT j]/\lS h B=2/\hv h B 0=str s/\hv h B 1= Jx JT k/\k<=s.length/\s.length<=65536/\j<=3/\K (.int .u8 (kY s (k+j))) h
theorem LF(hC:UK vs h K):kN Tryz.prog 138 vs h K KP:=by
 obtain⟨B,s,k,j,rfl,hz,h0,h1,hk,hl,hj,hK⟩:=hC
 refine jJ 65555 [(none,(.t 4))] (G:=(λ_ _ _ _ _=>False)) (λ_ _ _ _ _ h=>h.elim) Tryz.func138 ?_
 have e1:(k:Int)+(j:Int)=((k+j:Nat):Int):=zO
 by_cases hlt:k+j<s.length
 ·simp(disch:=omega) only[↓reduceIte,go_sem,hz,h0,h1,e1,hlt,qD]
  exact hK
 ·rw[yL zO]at hK
  simp(disch:=omega) only[↓reduceIte,go_sem,hz,h0,h1,e1,hlt]
  exact hK
def acD(vs:List Value)(h:H)(K:Value->H->Prop):Prop:= ∃(B:Nat) (s:List UInt8) (k:Nat),vs=[.pointer (some ⟨B,0,none⟩),Jx JT k]/\lS h B=2/\hv h B 0=str s/\k<=s.length/\s.length<=65536/\K (Jx JT (oW s k)) h
def NA:lq:=λf vs h K _=>(f=140/\xE zw vs h K)
theorem UL:lQ Tryz.prog NA:=pX FD
theorem Qq(hC:acD vs h K):kN Tryz.prog 158 vs h K KP:=by
 obtain⟨B,s,k,rfl,hz,h0,hk,hl,hK⟩:=hC
 refine jJ 1048595 [(none,(.t 4))] UL Tryz.func158 ?_
 simp only[go_sem]
 refine jE (fun(j:Nat) σ h'=>σ 0= .pointer (some ⟨B,0,none⟩)/\σ 1= Jx JT j/\h'=h/\j<=s.length/\oW s j=oW s k) (λj=>s.length - j) k ⟨zJ,zJ,rfl,zO,rfl⟩ ?_
 rintro j σ h' ⟨e0,e1,rfl,hj,he⟩
 by_cases hlt:j<s.length
 ·cases hw:zw (kY s j)with
  |true=>
   simp(disch:=omega) only[↓reduceIte,go_sem,nE,e0,e1,hz,h0,hlt,qD,NA,xE,hw]
   exact⟨j+1,zP,zO,(NB hlt hw).symm.trans he,zO⟩
  |false=>
   rw[Bi (by rw[hw];simp)]at he
   subst he
   simp(disch:=omega) only[↓reduceIte,go_sem,nE,e0,e1,hz,h0,hlt,qD,NA,xE,hw]
   exact hK
 ·rw[Bi zO]at he
  subst he
  simp(disch:=omega) only[↓reduceIte,go_sem,e0,e1,hz,h0,hlt,qD]
  exact hK
def Dk(vs:List Value)(h:H)(K:Value->H->Prop):Prop:= ∃(u:U) (p:Value) (c o:Int),vs=[p,Jx JT c,Jx JT o]/\ ∀u' h',jD S0 u h u' h'->K (.tuple #[.agg jV.toArray,.agg (jH c o).toArray]) h'
theorem yK(hC:Dk vs h K):kN Tryz.prog 136 vs h K KP:=by
 obtain⟨u,p,c,o,rfl,hK⟩:=hC
 refine jJ 198 [((some (.c1 (.ldn 6) (.t 6))),(.o1 (.ldn 6) (.t 6))),((some (.c1 (.ldn 3) (.t 7))),(.o1 (.ldn 3) (.t 7)))] (G:=(λ_ _ _ _ _=>False)) (λ_ _ _ _ _ h=>h.elim) Tryz.func136 ?_
 simp(disch:=first|omega|simp only[zz];try omega;done) only[↓reduceIte,go_sem]
 exact hK _ _ zT
theorem XP(c:Nat)(hc:c<256):(if pg c then(c:Int) - 48 else if 97<=c/\c<=102 then(c:Int) - 97+10 else if 65<=c/\c<=70 then(c:Int) - 65+10 else -1)=match BN c with|some a=>(a:Int)|none=> -1:=by
 unfold BN
 cases hd:pg c with
 |true=>simp only[bv];unfold pg at hd;simp at hd;rw[Int.ofNat_sub zO];rfl
 |false=>
  simp only[aD,aW]
  split
  ·simp only;omega
  ·split
   ·simp only;omega
   ·rfl
def Qr(c:Nat):Int:=match BN c with|some a=>(a:Int)|none=> -1
def XQ(vs:List Value)(h:H)(K:Value->H->Prop):Prop:= ∃c:Nat,vs=[.int .u8 c]/\c<256/\K (Jx JT (Qr c)) h
def Dl:lq:=λf vs h K _=>(f=137/\xE pg vs h K)
theorem UM:lQ Tryz.prog Dl:=pX uV
theorem acE(hC:XQ vs h K):kN Tryz.prog 179 vs h K KP:=by
 obtain⟨c,rfl,hc,hK⟩:=hC
 refine jJ 1049101 [(none,(.t 2))] UM Tryz.func179 ?_
 rw[Qr,<-XP c hc]at hK
 cases hd:pg c with
 |true=>
  have hd':=hd
  unfold pg at hd';simp at hd'
  rw[hd,ah rfl]at hK
  simp(disch:=omega) only[↓reduceIte,go_sem,nE,Dl,xE,hd,wr8]
  exact hK
 |false=>
  rw[hd]at hK
  simp only[aD,aW]at hK
  by_cases h1:97<=c/\c<=102
  ·rw[ah h1]at hK
   simp(disch:=omega) only[↓reduceIte,go_sem,nE,Dl,xE,hd,ai (show(97:Int)<=(c:Int) by omega),ai (show(c:Int)<=102 by omega),wr8]
   exact hK
  ·rw[af h1]at hK
   by_cases h2:65<=c/\c<=70
   ·rw[ah h2]at hK
    simp(disch:=omega) only[↓reduceIte,go_sem,nE,Dl,xE,hd,ae (show¬(97:Int)<=(c:Int) by omega),ai (show(65:Int)<=(c:Int) by omega),ai (show(c:Int)<=70 by omega),wr8]
    exact hK
   ·rw[af h2]at hK
    simp(disch:=omega) only[↓reduceIte,go_sem,nE,Dl,xE,hd]
    exact⟨λh=>zO,λ_=>⟨λh=>zO,λ_=>hK⟩⟩
end Go.Proofs.Z
namespace Go.Ev
open Go
theorem jR.new{u:U}{h:H}(cs:List Value)(t:TypeId):jR (ub u h.size 0) (h.push (.cells cs.toArray t)) h.size cs:=
 ⟨zP,by rw[uo rfl],by rw[uS rfl],AX,λi v hv=>by rw[yH rfl,aG,hv];rfl⟩
theorem jR.other{u:U}{h:H}{b k:Nat}{cs l:List Value}{o:Nat}(A:jR u h b cs)(hk:b≠k):jR u (jW h k o l) b cs:=by
 obtain⟨h1,h2,h3,h4,h5⟩:=A
 refine⟨by rw[lI];exact h1,by rw[jP];exact h2,by rw[jQ];exact h3,h4,λi v hv=> ?_⟩
 have:=h5 i v hv
 unfold Go.Ev.hv hc at this ⊢
 rw[AV _ _ _ _ _ hk];exact this
theorem mO{S:Nat->Prop}{u0 u:U}{h0 h:H}{a b:Nat}{ca cb la lb:List Value}(st:jD S u0 h0 u h)(A:jR u h a ca)(B:jR u h b cb)(hab:a≠b)(ha:h0.size<=a)(hb:h0.size<=b)(hla:la.length=ca.length)(hlb:lb.length=cb.length):
  jD S u0 h0 u (jW (jW h a 0 la) b 0 lb)/\jR u (jW (jW h a 0 la) b 0 lb) a la/\jR u (jW (jW h a 0 la) b 0 lb) b lb/\ ∀i cs,jR u h i cs->i≠a->i≠b->jR u (jW (jW h a 0 la) b 0 lb) i cs:=by
 have hA:=A.2.2.2.1;have hB:=B.2.2.2.1
 have A1:=A.sets hla
 have B1:jR u (jW h a 0 la) b cb:=B.other (gF hab)
 have s1:=jD.rZ (l:=la) (o:=0) st (.inl ha) (by rw[hA];exact ak _) (by rw[A.2.1,hla];omega)
 have s2:=jD.rZ (l:=lb) (o:=0) s1 (.inl hb) (by rw[hB];exact ak _) (by rw[B1.2.1,hlb];omega)
 exact⟨s2,A1.other hab,B1.sets hlb,λi cs k hia hib=>(k.other hia).other hib⟩
end Go.Ev
namespace Go.Proofs.Z
open Go Go.Ev Edict
theorem akC{s:List UInt8}{k e:Nat}(h:k<e)(he:e<=s.length):((s.take e).drop k).getD 0 0=s.getD k 0:=by
 simp only[aG,dP,dO,dE]
 rw[ah h]
theorem alv{s:List UInt8}{k e:Nat}(h:k<=e)(he:e<=s.length):((s.take e).drop k).length=e - k:=by simp;omega
abbrev Ny(u:U)(h:H)(B:Nat)(s:List UInt8)(k:Nat):Prop:=jR u h B [str s,Jx JT k]
def FC(Gl:U->H->Prop)(F:List UInt8->Nat->TR)(oV:List UInt8->Nat->Prop)(vs:List Value)(h:H)(K:Value->H->Prop):Prop:= ∃(u:U) (B:Nat) (s:List UInt8) (k:Nat),vs=[.pointer (some ⟨B,0,none⟩)]/\Ny u h B s k/\k<=s.length/\s.length<=65536/\oV s k/\Gl u h/\
 ∀u' h',jD (λi=>i=B) u h u' h'->(∀t,F s k= .ok t->Ny u' h' B s t.2.2.2.2.2.toNat)->K (qw (F s k)) h'
def noG:U->H->Prop:=λ_ _=>True
def acC:lq:=λf vs h K _=>(f=161/\xE Iy vs h K)\/(f=158/\acD vs h K)\/(f=136/\Dk vs h K)
theorem Qp:lQ Tryz.prog acC:=lY Dj (lY Qq (pX yK))
theorem ZE{vs:List Value}{h:H}{K:Value->H->Prop}{KP:List PanicEntry->H->Prop}(hC:FC noG nP (λs k=>k<s.length/\zw (kY s k)=true) vs h K):kN Tryz.prog 141 vs h K KP:=by
 obtain⟨u,B,s,k,rfl,hB,hk,hl,⟨hlt,hw⟩,-,hK⟩:=hC
 have hr1:=xQ hlt hw
 have hr2:=wV s k hk
 have hB1:=hB.1
 refine jJ 2216203255933 [((some (.c1 (.ldn 6) (.t 2))),(.o1 (.ldn 6) (.t 2))),((some (.c1 (.ldn 3) (.t 3))),(.o1 (.ldn 3) (.t 3)))] Qp Tryz.func141 ?_
 have sp:jD (λi=>i=B) u h _ _:=jD.qZ (λi=>i=B) u h jV.toArray 46
 have T0:jR (ub u h.size 0) (h.push (.cells jV.toArray 46)) h.size jV:=jR.new jV _
 have sp1:=sp.pZ (c:=(jH 0 0).toArray) (t:=27)
 have T1:=T0.pZ (c:=(jH 0 0).toArray) (t:=27)
 have F1:jR (ub (ub u h.size 0) (h.size+1) 0) ((h.push (.cells jV.toArray 46)).push (.cells (jH 0 0).toArray 27)) (h.size+1) (jH 0 0):=by have:=jR.new (u:=ub u h.size 0) (h:=h.push (.cells jV.toArray 46)) (jH 0 0) 27;simpa only[kw]using this
 simp only[kw]at sp1 T1
 simp(disch:=first|omega|simp only[zz];try omega;done) only[↓reduceIte,go_sem,hB.at,hB.2.1]
 refine jC (.inr (.inl ⟨rfl,B,s,k,rfl,by simp(disch:=first|omega|simp only[zz];try omega;done) only[go_sem,hB.2.1],by simp(disch:=first|omega|simp only[zz];try omega;done) only[go_sem,hB.at],hk,hl,⟨jO,?_⟩⟩))
 obtain⟨e,he⟩:=kg (oW s k)
 rw[<-he]at hr1 hr2 ⊢
 by_cases h64:64<e - k
 ·have hF:nP s k= .bad 14 k:=by unfold nP;rw[ah (by rw[<-he];exact h64)]
  rw[hF]at hK
  simp(disch:=omega) only[↓reduceIte,go_sem,ai (show(64:Int)<(e:Int) - (k:Int) by omega)]
  refine jC (.inr (.inr ⟨rfl,ub (ub u h.size 0) (h.size+1) 0,_,14,k,rfl,λu2 h2 s2=>⟨jO,?_⟩⟩))
  obtain⟨r1,r2,r3,-⟩:=mO (la:=jV) (lb:=jH 14 k) (sp1.tZ s2) (T1.sZ s2) (F1.sZ s2) zO zO zO rfl rfl
  have T2:=T1.sZ s2
  have F2:=F1.sZ s2
  have T21:=T2.1;have F21:=F2.1
  simp only[jV,jH]at r1 r2 r3
  simp(disch:=first|omega|simp only[zz];try omega;done) only[↓reduceIte,go_sem,jV,jH,T2.2.1,T2.2.2.1,F2.2.1,F2.2.2.1,jP,jQ,r2.at,r3.at,r2.2.1,r3.2.1]
  exact hK _ _ r1 (λt ht=>by cases ht)
 ·have hst:jD (λi=>i=B) u h u (ky h B 1 (Jx JT e)):=jD.set u h _ rfl (by rw[hB.2.2.2.1];exact aj _)
  have hB':Ny u (ky h B 1 (Jx JT e)) B s e:=hB.set (i:=1) (v:= Jx JT e) zP
  have hsl:=alv (dQ hr1) hr2
  have hpos:(0:Int)<(((s.take e).drop k).length:Nat):=zO
  by_cases hnot:sub s k e=[110,111,116]
  ·have hF:nP s k= .ok (10,[],0,0,k,e):=by unfold nP;rw[<-he,af h64,ah hnot]
   rw[hF]at hK
   unfold sub at hnot
   simp(disch:=first|omega|simp only[zz];try omega;done) only[↓reduceIte,go_sem,ae (show¬(64:Int)<(e:Int) - (k:Int) by omega),hB.at,hB.2.1,hB.2.2.1,ai hnot,ai hr2,ai (dQ hr1)]
   exact hK _ _ zT (λt ht=>by cases ht;exact zW)
  ·cases hlo:Iy (kY s k)with
   |true=>
    have hF:nP s k= .ok (1,sub s k e,0,0,k,e):=by unfold nP;rw[<-he,af h64,af hnot,ah hlo]
    rw[hF]at hK
    unfold sub at hnot hK
    simp(disch:=first|omega|simp only[zz];try omega;done) only[↓reduceIte,go_sem,ae (show¬(64:Int)<(e:Int) - (k:Int) by omega),hB.at,hB.2.1,hB.2.2.1,ae hnot,ai hr2,ai (dQ hr1),ai hpos]
    refine jC (.inl ⟨rfl,kY s k,by rw[akC hr1 hr2];rfl,⟨jO,?_⟩⟩)
    rw[hlo]
    simp(disch:=first|omega|simp only[zz];try omega;done) only[↓reduceIte,go_sem]
    exact hK _ _ zT (λt ht=>by cases ht;exact zW)
   |false=>
    have hF:nP s k= .ok (2,sub s k e,0,0,k,e):=by unfold nP;rw[<-he,af h64,af hnot,hlo];rfl
    rw[hF]at hK
    unfold sub at hnot hK
    simp(disch:=first|omega|simp only[zz];try omega;done) only[↓reduceIte,go_sem,ae (show¬(64:Int)<(e:Int) - (k:Int) by omega),hB.at,hB.2.1,hB.2.2.1,ae hnot,ai hr2,ai (dQ hr1),ai hpos]
    refine jC (.inl ⟨rfl,kY s k,by rw[akC hr1 hr2];rfl,⟨jO,?_⟩⟩)
    rw[hlo]
    simp(disch:=first|omega|simp only[zz];try omega;done) only[↓reduceIte,go_sem]
    exact hK _ _ zT (λt ht=>by cases ht;exact zW)
end Go.Proofs.Z
namespace Go.Ev
open Go Rep
variable {a b:Int} {h:H} {k k':IntKind} {op:BinOp} {u:U}
instance repByte:Rep UInt8 where
 sz:=1
 rep _ _ s cs:=cs=[.int .u8 s.toNat]
 wf _:=True
 bulk _:=1
 szp:=Nat.one_pos
 len h:=by subst h;rfl
 ok h:=by subst h;rfl
 mono _ h:=h
 pos _:=ak _
theorem zR{n:UInt8}{cs:List Value}:rep u h n cs=(cs=[.int .u8 n.toNat]):=rfl
theorem XN:sz UInt8=1:=rfl
theorem Qm {G:lq} {d:Option Nat} {st:su} {r:List St} {K:ku->H->Prop} {KP:List PanicEntry->H->Prop} {σ:ku} {k:Nat} {v:Value} {l:List UInt8} (ho:lm k u h v l)
  (hK:mq st σ h h/\kT G r K KP (nD σ d (str l)) h):nZ G .b2s d st r K KP [v] σ h:=by
 rcases ho with⟨rfl,rfl⟩|⟨b,c,rfl,h1,h2,h3,h4,h5,h6,h7,h8⟩
 ·exact hK
 ·refine⟨by rw[h5,bJ];rw[XN];omega,l,?_,hK⟩
  apply dV
  intro i
  by_cases hi:i<l.length
  ·have hx:=h8 i l[i] (by simp [hi])
   rw[XN,dz,zR,qR]at hx
   simp only[qV,bL,di hi,bn,bJ]
   simp only[ax,aC]at hx
   rw[hx];simp [hi,sG]
  ·simp [qV,dh (show l.length<=i by omega)];omega
theorem ai5:v2 (.bits op) (.int k a) (.int k' b) h= .int k (xM op k a b):=(rfl)
theorem afZ:s2 (.bits op) (.int k a) (.int k' b) h=(if rF op then 0<=b else k=k'):=by simp [s2,kS,ti,tk]
end Go.Ev
namespace Go.Proofs.Z
open Go Go.Ev Edict
variable {acc:List UInt8} {i o:Nat} {s:List UInt8}
variable {vs:List Value} {h:H} {K:Value->H->Prop} {KP:List PanicEntry->H->Prop}
theorem nib: ∀a<16,∀b<16,IntKind.u8.wrap (xM .or .i64 (xM .shl .i64 ((a:Nat):Int) 4) ((b:Nat):Int))=((a*16+b:Nat):Int):=by decide+kernel
theorem GI{c a:Nat}(h:BN c=some a):a<16:=by
 unfold BN pg at h
 split at h
 ·rename_i h1;simp at h1;cases h;omega
 ·split at h
  ·cases h;omega
  ·split at h<;>cases h;omega
def ahu(vs:List Value)(h:H)(K:Value->H->Prop):Prop:= ∃(B:Nat) (s:List UInt8) (k:Nat),vs=[.pointer (some ⟨B,0,none⟩)]/\lS h B=2/\hv h B 0=str s/\hv h B 1= Jx JT k/\k<=s.length/\s.length<=65536/\K (.tuple #[.int .u8 (xP s k).1,Jx JT (xP s k).2]) h
def UJ:lq:=λf vs h K _=>(f=138/\UK vs h K)\/(f=179/\XQ vs h K)
theorem KA:lQ Tryz.prog UJ:=lY LF (pX acE)
theorem Qn(hC:ahu vs h K):kN Tryz.prog 162 vs h K KP:=by
 obtain⟨B,s,k,rfl,hz,h0,h1,hk,hl,hK⟩:=hC
 refine jJ 2147833277 [(none,(.t 2)),(none,(.t 3))] KA Tryz.func162 ?_
 simp only[↓reduceIte,go_sem]
 refine jC (.inl ⟨rfl,B,s,k,1,rfl,hz,h0,h1,hk,hl,zO,⟨jO,?_⟩⟩)
 unfold xP at hK
 obtain⟨c,hc⟩:=kg (kY s (k+1))
 rw[<-hc]at hK ⊢
 by_cases q1:c=34
 ·rw[ah q1]at hK
  simp only[↓reduceIte,go_sem,ai (show(c:Int)=34 by omega)]
  exact hK
 rw[af q1]at hK
 by_cases q2:c=92
 ·rw[ah q2]at hK
  simp only[↓reduceIte,go_sem,ae (show¬(c:Int)=34 by omega),ai (show(c:Int)=92 by omega)]
  exact hK
 rw[af q2]at hK
 by_cases q3:c=110
 ·rw[ah q3]at hK
  simp only[↓reduceIte,go_sem,ae (show¬(c:Int)=34 by omega),ae (show¬(c:Int)=92 by omega),ai (show(c:Int)=110 by omega)]
  exact hK
 rw[af q3]at hK
 by_cases q4:c=116
 ·rw[ah q4]at hK
  simp only[↓reduceIte,go_sem,ae (show¬(c:Int)=34 by omega),ae (show¬(c:Int)=92 by omega),ae (show¬(c:Int)=110 by omega),ai (show(c:Int)=116 by omega)]
  exact hK
 rw[af q4]at hK
 by_cases q5:c=114
 ·rw[ah q5]at hK
  simp only[↓reduceIte,go_sem,ae (show¬(c:Int)=34 by omega),ae (show¬(c:Int)=92 by omega),ae (show¬(c:Int)=110 by omega),ae (show¬(c:Int)=116 by omega),ai (show(c:Int)=114 by omega)]
  exact hK
 rw[af q5]at hK
 by_cases q6:c=120
 ·rw[ah q6]at hK
  simp only[↓reduceIte,go_sem,ae (show¬(c:Int)=34 by omega),ae (show¬(c:Int)=92 by omega),ae (show¬(c:Int)=110 by omega),ae (show¬(c:Int)=116 by omega),ae (show¬(c:Int)=114 by omega),ai (show(c:Int)=120 by omega)]
  refine jC (.inl ⟨rfl,B,s,k,2,rfl,hz,h0,h1,hk,hl,zO,⟨jO,?_⟩⟩)
  simp only[↓reduceIte,go_sem,jN]
  refine jC (.inr ⟨rfl,_,rfl,zV _ _,⟨jO,?_⟩⟩)
  simp only[↓reduceIte,go_sem,jN]
  refine jC (.inl ⟨rfl,B,s,k,3,rfl,hz,h0,h1,hk,hl,zO,⟨jO,?_⟩⟩)
  simp only[↓reduceIte,go_sem,jN]
  refine jC (.inr ⟨rfl,_,rfl,zV _ _,⟨jO,?_⟩⟩)
  unfold Qr
  cases ha:BN (kY s (k+2))with
  |none=>
   rw[ha]at hK
   simp only at hK
   simp only[↓reduceIte,go_sem,jN]
   exact hK
  |some a=>
   cases hb:BN (kY s (k+3))with
   |none=>
    rw[ha,hb]at hK
    simp only at hK
    simp only[↓reduceIte,go_sem,jN]
    exact hK
   |some b=>
    rw[ha,hb]at hK
    simp only at hK
    have hn:=nib a (GI ha) b (GI hb)
    simp only[↓reduceIte,go_sem,ai5,afZ,rF,hn]
    exact hK
 ·rw[af q6]at hK
  simp only[↓reduceIte,go_sem,ae (show¬(c:Int)=34 by omega),ae (show¬(c:Int)=92 by omega),ae (show¬(c:Int)=110 by omega),ae (show¬(c:Int)=116 by omega),ae (show¬(c:Int)=114 by omega),ae (show¬(c:Int)=120 by omega)]
  exact hK
def acB:lq:=λf vs h K _=>(f=162/\ahu vs h K)\/(f=136/\Dk vs h K)
theorem Qo:lQ Tryz.prog acB:=lY Qn (pX yK)
theorem Bg(h: ¬(i<s.length/\32<=kY s i)):og s o i acc= .bad 11 o:=by rw[og,af h]
theorem XO(h:i<s.length)(hc:kY s i=34):og s o i acc= .ok (4,acc,0,0,o,(i+1:Nat)):=by rw[og,ah ⟨h,zO⟩,ah hc]
theorem GJ(h:i<s.length)(hc:kY s i=92):og s o i acc=if(xP s i).2=0 then .bad 12 i else if acc.length=255 then .bad 15 o else og s o (i+(xP s i).2) (acc++[UInt8.ofNat (xP s i).1]):=by
 rw[og,ah ⟨h,zO⟩,af zO,ah hc]
theorem Nw(h:i<s.length)(h32:32<=kY s i)(h34:kY s i≠34)(h92:kY s i≠92):og s o i acc=if acc.length=255 then .bad 15 o else og s o (i+1) (acc++[UInt8.ofNat (kY s i)]):=by
 rw[og,ah ⟨h,h32⟩,af h34,af h92]
theorem Bh{n:Nat}(h:n<256):(UInt8.ofNat n).toNat=n:=by simpa using h
theorem ZC(hC:FC noG (λs k=>og s k (k+1) []) (λs k=>k<s.length) vs h K):kN Tryz.prog 142 vs h K KP:=by
 obtain⟨u,B,s,k,rfl,hB,hk,hl,hlt,-,hK⟩:=hC
 have hK: ∀u' h',jD (λi=>i=B) u h u' h'->(∀t,og s k (k+1) []= .ok t->Ny u' h' B s t.2.2.2.2.2.toNat)->K (qw (og s k (k+1) [])) h':=hK
 have hB1:=hB.1
 refine jJ 4954196898318740530076319997 [((some (.c1 (.ldn 6) (.t 2))),(.o1 (.ldn 6) (.t 2))),((some (.c1 (.ldn 3) (.t 3))),(.o1 (.ldn 3) (.t 3)))] Qo Tryz.func142 ?_ (by kernel_rfl) (by apply c0 rfl;repeat' first|apply cS|apply cK|apply cL|apply cX|(apply cC zD)|with_reducible exact cV 4 (.sts [(zk .nilck (.t 0)),(zg 1 (.t 0)),(zh (zf 1 (.t 0))),(zk .nilck (.t 0)),(zg 0 (.t 0)),(zh (zf 0 (.t 0))),(zk .lens (zl (zf 0 (.t 0)))),(zq .geq (zl (zf 1 (.t 0))) (.o1 .lens (zl (zf 0 (.t 0))))),(.chk [((zb .geq (zl (zf 1 (.t 0))) (.o1 .lens (zl (zf 0 (.t 0))))),false)] (.c1 .nilck (.t 0))),(.chk [((zb .geq (zl (zf 1 (.t 0))) (.o1 .lens (zl (zf 0 (.t 0))))),false)] (.c1 (.fld 0) (.t 0))),(.chk [((zb .geq (zl (zf 1 (.t 0))) (.o1 .lens (zl (zf 0 (.t 0))))),false)] (.c1 .ld1 (zf 0 (.t 0)))),(.chk [((zb .geq (zl (zf 1 (.t 0))) (.o1 .lens (zl (zf 0 (.t 0))))),false)] (.c1 .nilck (.t 0))),(.chk [((zb .geq (zl (zf 1 (.t 0))) (.o1 .lens (zl (zf 0 (.t 0))))),false)] (.c1 (.fld 1) (.t 0))),(.chk [((zb .geq (zl (zf 1 (.t 0))) (.o1 .lens (zl (zf 0 (.t 0))))),false)] (.c1 .ld1 (zf 1 (.t 0)))),(.chk [((zb .geq (zl (zf 1 (.t 0))) (.o1 .lens (zl (zf 0 (.t 0))))),false)] (.c2 .idxS (zl (zf 0 (.t 0))) (zl (zf 1 (.t 0))))),(.chk [((zb .geq (zl (zf 1 (.t 0))) (.o1 .lens (zl (zf 0 (.t 0))))),false)] (.c2 (.bin .lss) (.o2 .idxS (zl (zf 0 (.t 0))) (zl (zf 1 (.t 0)))) (.c (.int .u8 32)))),(.chk [] (.c3 .pick (zb .geq (zl (zf 1 (.t 0))) (.o1 .lens (zl (zf 0 (.t 0))))) (.c (.bool true)) (zb .lss (.o2 .idxS (zl (zf 0 (.t 0))) (zl (zf 1 (.t 0)))) (.c (.int .u8 32))))),(.set 40 (.o3 .pick (zb .geq (zl (zf 1 (.t 0))) (.o1 .lens (zl (zf 0 (.t 0))))) (.c (.bool true)) (zb .lss (.o2 .idxS (zl (zf 0 (.t 0))) (zl (zf 1 (.t 0)))) (.c (.int .u8 32)))))]) (by kernel_rfl)|(conv=>lhs;cbv;try simp only[Kw]))
 have hst:jD (λi=>i=B) u h u (ky h B 1 (Jx JT ((k:Int)+1))):=jD.set u h _ rfl (by rw[hB.2.2.2.1];exact aj _)
 have hB':Ny u (ky h B 1 (Jx JT ((k:Int)+1))) B s (k+1):=hB.set (i:=1) (v:= Jx JT ((k:Int)+1)) zP
 have lS:(ky h B 1 (Jx JT ((k:Int)+1))).size=h.size:=by rw[wS]
 have sp1:=(hst.pZ (c:=jV.toArray) (t:=46)).pZ (c:=(jH 0 0).toArray) (t:=27)
 have b1:=(hB'.pZ (c:=jV.toArray) (t:=46)).pZ (c:=(jH 0 0).toArray) (t:=27)
 have T1:=(jR.new (u:=u) (h:=ky h B 1 (Jx JT ((k:Int)+1))) jV 46).pZ (c:=(jH 0 0).toArray) (t:=27)
 have F1:=jR.new (u:=ub u (ky h B 1 (Jx JT ((k:Int)+1))).size 0) (h:=(ky h B 1 (Jx JT ((k:Int)+1))).push (.cells jV.toArray 46)) (jH 0 0) 27
 simp only[kw,lS]at sp1 b1 T1 F1
 simp(disch:=first|omega|simp only[zz];try omega;done) only[↓reduceIte,go_sem,hB.at,hB.2.1,hB.2.2.1]
 obtain⟨I,hI⟩: ∃I:Nat×List UInt8->ku->H->Prop,I=λx σ h'=>σ 0= .pointer (some ⟨B,0,none⟩)/\σ 2= .pointer (some ⟨h.size,0,none⟩)/\σ 3= .pointer (some ⟨h.size+1,0,none⟩)/\σ 4= Jx JT k/\k<x.1/\x.1<=s.length/\x.2.length<=255/\og s k x.1 x.2=og s k (k+1) []/\
   ∃u',jD (λi=>i=B) u h u' h'/\Ny u' h' B s x.1/\jR u' h' h.size jV/\jR u' h' (h.size+1) (jH 0 0)/\lm (h.size+2) u' h' (σ 5) x.2:=⟨_,rfl⟩
 refine jE I (λx=>s.length - x.1) (k+1,[]) (by
  rw[hI]
  exact⟨zJ,zJ,zJ,zJ,zP,by simp only;omega,zP,rfl,_,sp1,b1,T1,F1,by simpa [jI]using lm.nil _ _ _⟩) ?_
 clear sp1 b1 T1 F1 hB' hst
 rintro ⟨i,acc⟩ σ h1 hy
 rw[hI]at hy
 obtain⟨e0,e2,e3,e4,hki,hi,hal,hF,u1,st,b,T,F,ho⟩:=hy
 simp only at hki hi hal hF b ho
 rw[<-hF]at hK
 have hb1:=b.1;have hT1:=T.1;have hF1:=F.1
 obtain⟨oa,oc,hoe,ho1,ho2⟩:=ho.sl
 by_cases h32:i<s.length/\32<=kY s i
 ·obtain⟨hil,h32⟩:=h32
  by_cases h34:kY s i=34
  ·rw[XO hil h34]at hK
   have hst2:=st.setR (o:=1) (v:= Jx JT ((i:Int)+1)) (.inr rfl) (by rw[b.2.2.2.1];exact aj _)
   have b2:Ny u1 (ky h1 B 1 (Jx JT ((i:Int)+1))) B s (i+1):=b.set (i:=1) (v:= Jx JT ((i:Int)+1)) zP
   have ss:=jD.set (S:=λi=>i=B) u1 h1 (o:=1) (Jx JT ((i:Int)+1)) (b:=B) rfl (by rw[b.2.2.2.1];exact aj _)
   have T2:=T.step ss zO
   have F2:=F.step ss zO
   have o2:=ho.step ss (λq hq hB=>by have:=ho.ge hq;omega)
   obtain⟨r1,r2,r3,r4⟩:=mO (la:=[Jx JT 4,str acc,Jx JT 0,Jx JT 0,Jx JT k,Jx JT ((i+1:Nat))]) (lb:=jH 0 0) hst2 T2 F2 zO zO zO rfl rfl
   have b3:=r4 B _ b2 zO zO
   simp only[jH]at r1 r2 r3 b3
   have T22:=T2.2.1
   have F22:=F2.2.1
   simp only[jV,jH,au,aA]at T22 F22
   simp(disch:=first|omega|simp only[zz];try omega;done) only[↓reduceIte,go_sem,e0,b.at,b.2.1,b.2.2.1,ai hil,qD,ai (show(kY s i:Int)=34 by omega),ae (show¬(kY s i:Int)<32 by omega),ae (show¬(s.length:Int)<=(i:Int) by omega)]
   refine Qm o2 ⟨by simp(disch:=first|omega|simp only[zz];try omega;done) only[↓reduceIte,go_sem,e0,b2.at,b2.2.1],?_⟩
   have T21:=T2.1
   have F21:=F2.1
   simp(disch:=first|omega|simp only[zz];try omega;done) only[↓reduceIte,go_sem,e2,e3,e4,b2.at,T22,T2.2.2.1,F22,F2.2.2.1,jP,jQ,r2.at,r3.at,r2.2.1,r3.2.1]
   exact hK _ _ r1 (λt ht=>by cases ht;exact b3)
  ·by_cases h92:kY s i=92
   ·rw[GJ hil h92]at hK
    simp(disch:=first|omega|simp only[zz];try omega;done) only[↓reduceIte,go_sem,e0,b.at,b.2.1,qD,ai hil,ae (show¬(kY s i:Int)=34 by omega),ai (show(kY s i:Int)=92 by omega),ae (show¬(kY s i:Int)<32 by omega),ae (show¬(s.length:Int)<=(i:Int) by omega)]
    refine jC (.inl ⟨rfl,B,s,i,rfl,b.2.1,b.at 0 zP,b.at 1 zP,hi,hl,⟨jO,?_⟩⟩)
    have hesc:=Dm s i
    have hc256:=Qs s i
    obtain⟨⟨c,n⟩,hcn⟩: ∃x,x=xP s i:=⟨_,rfl⟩
    rw[<-hcn]at hK hesc hc256 ⊢
    simp only at hK hesc hc256 ⊢
    by_cases hn0:n=0
    ·rw[ah hn0]at hK
     simp(disch:=first|omega|simp only[zz];try omega;done) only[↓reduceIte,go_sem,e0,b.at,b.2.1,ai (show(n:Int)=0 by omega)]
     refine jC (.inr ⟨rfl,u1,_,12,i,rfl,λu2 h2 s2=>⟨jO,?_⟩⟩)
     have T2:=T.sZ s2
     have F2:=F.sZ s2
     obtain⟨r1,r2,r3,-⟩:=mO (la:=jV) (lb:=jH 12 i) (st.tZ s2) T2 F2 zO zO zO rfl rfl
     have T21:=T2.1
     have F21:=F2.1
     simp only[jV,jH]at r1 r2 r3
     simp(disch:=first|omega|simp only[zz];try omega;done) only[↓reduceIte,go_sem,e2,e3,jV,jH,T2.2.1,T2.2.2.1,F2.2.1,F2.2.2.1,jP,jQ,r2.at,r3.at,r2.2.1,r3.2.1]
     exact hK _ _ r1 (λt ht=>by cases ht)
    ·rw[af hn0]at hK
     by_cases h255:acc.length=255
     ·rw[ah h255]at hK
      simp(disch:=omega) only[↓reduceIte,go_sem,e0,e4,hoe,ae (show¬(n:Int)=0 by omega),ai (show(acc.length:Int)=255 by omega)]
      refine jC (.inr ⟨rfl,u1,_,15,k,rfl,λu2 h2 s2=>⟨jO,?_⟩⟩)
      have T2:=T.sZ s2
      have F2:=F.sZ s2
      obtain⟨r1,r2,r3,-⟩:=mO (la:=jV) (lb:=jH 15 k) (st.tZ s2) T2 F2 zO zO zO rfl rfl
      have T21:=T2.1
      have F21:=F2.1
      simp only[jV,jH]at r1 r2 r3
      simp(disch:=first|omega|simp only[zz];try omega;done) only[↓reduceIte,go_sem,e2,e3,jV,jH,T2.2.1,T2.2.2.1,F2.2.1,F2.2.2.1,jP,jQ,r2.at,r3.at,r2.2.1,r3.2.1]
      exact hK _ _ r1 (λt ht=>by cases ht)
     ·rw[af h255]at hK
      have hnx:og s k i acc=og s k (i+n) (acc++[UInt8.ofNat c]):=by rw[GJ hil h92,<-hcn];simp only;rw[af hn0,af h255]
      simp(disch:=omega) only[↓reduceIte,go_sem,hoe,ae (show¬(n:Int)=0 by omega),ae (show¬(acc.length:Int)=255 by omega)]
      rw[<-hoe]
      refine lM (k:=h.size+2) (x:=UInt8.ofNat (c)) (cs:=[.int .u8 (c:Nat)]) ho (by rw[zR,Bh hc256]) rfl rfl zO zO λa n' k' u2 h2 ho2 s2=>⟨jO,?_⟩
      have hnb: ∀q,jL (σ 5) q->h.size+2<=q:=λq hq=>ho.ge hq
      have b2:=b.step s2 (λhq=>by have:=hnb _ hq;omega)
      have T2:=T.step s2 (λhq=>by have:=hnb _ hq;omega)
      have F2:=F.step s2 (λhq=>by have:=hnb _ hq;omega)
      have b21:=b2.1
      have st2:=st.trans s2 (λq hq hQ=>by have:=hnb _ hQ;omega)
      simp(disch:=first|omega|simp only[zz];try omega;done) only[↓reduceIte,go_sem,e0,b2.at,b2.2.1,b2.2.2.1]
      have ss:=jD.set (S:=λi=>i=B) u2 h2 (o:=1) (Jx JT (((i+(n):Nat):Int))) (b:=B) rfl (by rw[b2.2.2.2.1];exact aj _)
      have st3:=st2.setR (o:=1) (v:= Jx JT (((i+(n):Nat):Int))) (.inr rfl) (by rw[b2.2.2.2.1];exact aj _)
      have b3:Ny u2 (ky h2 B 1 (Jx JT (((i+(n):Nat):Int)))) B s (i+(n)):=b2.set (i:=1) zP
      have ei:((i:Int)+(((n:Nat)):Int))=((i+(n):Nat):Int):=zO
      try rw[show((i:Int)+1)=((i+1:Nat):Int) by omega]
      try rw[ei]
      refine⟨(i+(n),acc++[UInt8.ofNat (c)]),?_,by simp only;omega⟩
      rw[hI]
      exact⟨by simp [jI,e0],by simp [jI,e2],by simp [jI,e3],by simp [jI,e4],by simp only;omega,by simp only;omega,by simp;omega,hnx.symm.trans hF,u2,st3,b3,T2.step ss zO,F2.step ss zO,by simpa [jI]using ho2.step ss (λq hq hQ=>by have:=ho2.ge hq;omega)⟩
   ·rw[Nw hil h32 h34 h92]at hK
    have hc256:=zV s i
    by_cases h255:acc.length=255
    ·rw[ah h255]at hK
     simp(disch:=first|omega|simp only[zz];try omega;done) only[↓reduceIte,go_sem,e0,e4,hoe,b.at,b.2.1,qD,ai hil,ae (show¬(kY s i:Int)=34 by omega),ae (show¬(kY s i:Int)=92 by omega),ae (show¬(kY s i:Int)<32 by omega),ae (show¬(s.length:Int)<=(i:Int) by omega),ai (show(acc.length:Int)=255 by omega)]
     refine jC (.inr ⟨rfl,u1,_,15,k,rfl,λu2 h2 s2=>⟨jO,?_⟩⟩)
     have T2:=T.sZ s2
     have F2:=F.sZ s2
     obtain⟨r1,r2,r3,-⟩:=mO (la:=jV) (lb:=jH 15 k) (st.tZ s2) T2 F2 zO zO zO rfl rfl
     have T21:=T2.1
     have F21:=F2.1
     simp only[jV,jH]at r1 r2 r3
     simp(disch:=first|omega|simp only[zz];try omega;done) only[↓reduceIte,go_sem,e2,e3,jV,jH,T2.2.1,T2.2.2.1,F2.2.1,F2.2.2.1,jP,jQ,r2.at,r3.at,r2.2.1,r3.2.1]
     exact hK _ _ r1 (λt ht=>by cases ht)
    ·rw[af h255]at hK
     have hnx:og s k i acc=og s k (i+1) (acc++[UInt8.ofNat (kY s i)]):=by rw[Nw hil h32 h34 h92,af h255]
     simp(disch:=first|omega|simp only[zz];try omega;done) only[↓reduceIte,go_sem,e0,hoe,b.at,b.2.1,qD,ai hil,ae (show¬(kY s i:Int)=34 by omega),ae (show¬(kY s i:Int)=92 by omega),ae (show¬(kY s i:Int)<32 by omega),ae (show¬(s.length:Int)<=(i:Int) by omega),ae (show¬(acc.length:Int)=255 by omega)]
     rw[<-hoe]
     refine lM (k:=h.size+2) (x:=UInt8.ofNat (kY s i)) (cs:=[.int .u8 (kY s i:Nat)]) ho (by rw[zR,Bh hc256]) rfl rfl zO zO λa n' k' u2 h2 ho2 s2=>⟨jO,?_⟩
     have hnb: ∀q,jL (σ 5) q->h.size+2<=q:=λq hq=>ho.ge hq
     have b2:=b.step s2 (λhq=>by have:=hnb _ hq;omega)
     have T2:=T.step s2 (λhq=>by have:=hnb _ hq;omega)
     have F2:=F.step s2 (λhq=>by have:=hnb _ hq;omega)
     have b21:=b2.1
     have st2:=st.trans s2 (λq hq hQ=>by have:=hnb _ hQ;omega)
     simp(disch:=first|omega|simp only[zz];try omega;done) only[↓reduceIte,go_sem,e0,b2.at,b2.2.1,b2.2.2.1]
     have ss:=jD.set (S:=λi=>i=B) u2 h2 (o:=1) (Jx JT (((i+(1):Nat):Int))) (b:=B) rfl (by rw[b2.2.2.2.1];exact aj _)
     have st3:=st2.setR (o:=1) (v:= Jx JT (((i+(1):Nat):Int))) (.inr rfl) (by rw[b2.2.2.2.1];exact aj _)
     have b3:Ny u2 (ky h2 B 1 (Jx JT (((i+(1):Nat):Int)))) B s (i+(1)):=b2.set (i:=1) zP
     have ei:((i:Int)+(((1:Nat)):Int))=((i+(1):Nat):Int):=zO
     try rw[show((i:Int)+1)=((i+1:Nat):Int) by omega]
     try rw[ei]
     refine⟨(i+(1),acc++[UInt8.ofNat (kY s i)]),?_,by simp only;omega⟩
     rw[hI]
     exact⟨by simp [jI,e0],by simp [jI,e2],by simp [jI,e3],by simp [jI,e4],by simp only;omega,by simp only;omega,by simp;omega,hnx.symm.trans hF,u2,st3,b3,T2.step ss zO,F2.step ss zO,by simpa [jI]using ho2.step ss (λq hq hQ=>by have:=ho2.ge hq;omega)⟩
 ·rw[Bg h32]at hK
  by_cases hil:i<s.length
  ·simp(disch:=first|omega|simp only[zz];try omega;done) only[↓reduceIte,go_sem,e0,e4,b.at,b.2.1,qD,ai hil,ai (show(kY s i:Int)<32 by omega),ae (show¬(s.length:Int)<=(i:Int) by omega)]
   refine jC (.inr ⟨rfl,u1,_,11,k,rfl,λu2 h2 s2=>⟨jO,?_⟩⟩)
   have T2:=T.sZ s2
   have F2:=F.sZ s2
   obtain⟨r1,r2,r3,-⟩:=mO (la:=jV) (lb:=jH 11 k) (st.tZ s2) T2 F2 zO zO zO rfl rfl
   have T21:=T2.1
   have F21:=F2.1
   simp only[jV,jH]at r1 r2 r3
   simp(disch:=first|omega|simp only[zz];try omega;done) only[↓reduceIte,go_sem,e2,e3,jV,jH,T2.2.1,T2.2.2.1,F2.2.1,F2.2.2.1,jP,jQ,r2.at,r3.at,r2.2.1,r3.2.1]
   exact hK _ _ r1 (λt ht=>by cases ht)
  ·simp(disch:=first|omega|simp only[zz];try omega;done) only[↓reduceIte,go_sem,e0,e4,b.at,b.2.1,qD,ai (show(s.length:Int)<=(i:Int) by omega)]
   refine jC (.inr ⟨rfl,u1,_,11,k,rfl,λu2 h2 s2=>⟨jO,?_⟩⟩)
   have T2:=T.sZ s2
   have F2:=F.sZ s2
   obtain⟨r1,r2,r3,-⟩:=mO (la:=jV) (lb:=jH 11 k) (st.tZ s2) T2 F2 zO zO zO rfl rfl
   have T21:=T2.1
   have F21:=F2.1
   simp only[jV,jH]at r1 r2 r3
   simp(disch:=first|omega|simp only[zz];try omega;done) only[↓reduceIte,go_sem,e2,e3,jV,jH,T2.2.1,T2.2.2.1,F2.2.1,F2.2.2.1,jP,jQ,r2.at,r3.at,r2.2.1,r3.2.1]
   exact hK _ _ r1 (λt ht=>by cases ht)
end Go.Proofs.Z
