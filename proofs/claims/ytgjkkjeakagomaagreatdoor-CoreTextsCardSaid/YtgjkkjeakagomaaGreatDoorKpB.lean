/- A part of the proof. -/
import Derived.Test.YtgjkkjeakagomaaGreatDoorKvA
import Derived.Test.YtgjkkjeakagomaaGreatDoorShelfB
import Derived.Test.YtgjkkjeakagomaaGreatDoorKbL
import Derived.Test.YtgjkkjeakagomaaGreatDoorRefS
import Derived.Test.YtgjkkjeakagomaaGreatDoorEvE
import Derived.Test.YtgjkkjeakagomaaGreatDoorCbT
set_option linter.all false
set_option maxRecDepth 100000
set_option maxHeartbeats 4000000
open Go.Value renaming int→Jx
open Go.IntKind renaming i64→JT
namespace Go.Proofs.Z
open Go Go.Ev
variable {b:Nat} {i j:Int} {k k':IntKind} {l o:Nat}
variable {vs:List Value} {h:H} {K:Value->H->Prop} {KP:List PanicEntry->H->Prop}
theorem NG{h:H}{m:Nat}:s3 (.cutP l m) (.pointer (some ⟨b,o,none⟩)) (.int k i) (.int k' j) h=(0<=i/\i<=j/\j<=l):=by simp [s3,kS,ti]
theorem UV{h:H}:v3 (.cutP 24 1) (.pointer (some ⟨b,0,none⟩)) (.int k 1) (.int k' j) h= .slice (some ⟨b,1,none⟩) (j.toNat - 1) 23:=(rfl)
theorem acJ{h:H}:s2 (.cutPH l) (.pointer (some ⟨b,o,none⟩)) (.int k i) h=(0<=i/\i<=l):=by simp [s2,kS,ti]
theorem af3{h:H}:v2 (.cutPH l) (.pointer (some ⟨b,o,none⟩)) (.int k i) h= .slice (some ⟨b,o,none⟩) i.toNat l:=(rfl)
theorem LG: ∀(f x:Nat),Lib.bitLenAux f x<=f
 |0,_=>ak _
 |f+1,x=>by
  unfold Lib.bitLenAux
  split
  ·omega
  ·have:=LG f (x / 2);omega
theorem ai7: ∀x≤64,Lib.l10 x<=19:=zD
def Ac(u:U)(h:H):Prop:=3<h.size/\lS h 3=20/\20<=u 3/\ ∀i,i<20-> ∃x:Int,Go.Ev.hv h 3 i= .int .u64 x
theorem Ac.mono{u u':U}{h h':H}(k:Ac u h)(g:Ge u h u' h'):Ac u' h':=by
 obtain⟨k1,k2,k3,k4⟩:=k
 exact⟨bP k1 g.sz,by rw[(g.hs _ k1).1];exact k2,aT k3 (g.up _ k1),λi hi=>by rw[g.cl _ k1 i zO];exact k4 i hi⟩
def XY(vs:List Value)(h:H)(K:Value->H->Prop):Prop:= ∃x:Int,vs=[.int .u64 x]/\0<=x/\x<=18446744073709551615/\ ∀n:Nat,n<=64->K (Jx JT n) h
theorem UW(hC:XY vs h K):kN Tryz.prog 201 vs h K KP:=by
 obtain⟨x,rfl,h0,h1,hK⟩:=hC
 refine .inl ⟨by kernel_rfl,λw hw=> ?_⟩
 subst hw
 refine(Tryz.bits_Len64 x w h0 h1).mono ?_
 rintro e w' ⟨rfl,rfl⟩
 exact⟨⟨rfl,rfl,rfl⟩,hK _ (LG 64 _)⟩
def ahv(vs:List Value)(h:H)(K:Value->H->Prop):Prop:= ∃x:Nat,vs=[Jx JT x]/\x<=64/\ ∀n:Nat,n<=19->K (Jx JT n) h
theorem acK(hC:ahv vs h K):kN Tryz.prog 200 vs h K KP:=by
 obtain⟨x,rfl,h0,hK⟩:=hC
 refine .inl ⟨by kernel_rfl,λw hw=> ?_⟩
 subst hw
 refine(Tryz.internal_strconv_log10Pow2 x h0 w).mono ?_
 rintro e w' ⟨rfl,rfl⟩
 exact⟨⟨rfl,rfl,rfl⟩,hK _ (ai7 x h0)⟩
def XZ(vs:List Value)(h:H)(K:Value->H->Prop):Prop:= ∃x:Bool,vs=[.bool x]/\K (Jx JT (if x then 1 else 0)) h
theorem ZG(hC:XZ vs h K):kN Tryz.prog 202 vs h K KP:=by
 obtain⟨x,rfl,hK⟩:=hC
 refine .inl ⟨by kernel_rfl,λw hw=> ?_⟩
 subst hw
 refine(Tryz.internal_strconv_bool2_int x w).mono ?_
 rintro e w' ⟨rfl,rfl⟩
 exact⟨⟨rfl,rfl,rfl⟩,hK⟩
def Ya(vs:List Value)(h:H)(K:Value->H->Prop):Prop:= ∃x:Nat,vs=[Jx JT x]/\x<100/\ ∀s:List UInt8,s.length<=24->K (str s) h
theorem ZH: ∀x<100,(Lib.decDigits x).length<=24:=by decide+kernel
theorem UX(hC:Ya vs h K):kN Tryz.prog 196 vs h K KP:=by
 obtain⟨x,rfl,h0,hK⟩:=hC
 refine .inl ⟨by kernel_rfl,λw hw=> ?_⟩
 subst hw
 refine(Tryz.internal_strconv_small x h0 w).mono ?_
 rintro e w' ⟨rfl,rfl⟩
 exact⟨⟨rfl,rfl,rfl⟩,hK _ (ZH x h0)⟩
def acL(vs:List Value)(h:H)(K:Value->H->Prop):Prop:= ∃(u:U) (x:Int),vs=[.int .u64 x]/\0<=x/\x<=18446744073709551615/\Ac u h/\ ∀n:Nat,n<=20->K (Jx JT n) h
def UY:lq:=λf vs h K _=>(f=201/\XY vs h K)\/(f=200/\ahv vs h K)\/(f=202/\XZ vs h K)
theorem KD:lQ Tryz.prog UY:=lY UW (lY acK (pX ZG))
theorem Qv(hC:acL vs h K):kN Tryz.prog 197 vs h K KP:=by
 obtain⟨u,x,rfl,h0,h1,⟨k1,k2,k3,k4⟩,hK⟩:=hC
 refine jJ 13 [(none,(.t 2))] KD Tryz.func197 ?_
 simp only[↓reduceIte,go_sem]
 refine jC (.inl ⟨rfl,x,rfl,h0,h1,λn hn=>⟨jO,?_⟩⟩)
 simp only[↓reduceIte,go_sem,jN]
 refine jC (.inr (.inl ⟨rfl,n,rfl,hn,λm hm=>⟨jO,?_⟩⟩))
 obtain⟨y,hy⟩:=k4 m zO
 simp only[↓reduceIte,go_sem,k2,hy,dz]
 refine⟨zO,zO,?_⟩
 refine jC (.inr (.inr ⟨rfl,_,rfl,⟨jO,?_⟩⟩))
 obtain⟨q,hq,hq1⟩: ∃q:Nat,(if y<=x then(1:Int)else 0)=q/\q<=1:=by
  by_cases e:y<=x
  ·exact⟨1,by simp [e],ak _⟩
  ·exact⟨0,by simp [e],aj _⟩
 simp(disch:=omega) only[↓reduceIte,go_sem,hq,aL]
 have e:((m:Int)+q)=((m+q:Nat):Int):=zO
 rw[e]
 exact hK (m+q) zO
theorem LH {G:lq} {d:Option Nat} {st:su} {r:List St} {K:ku->H->Prop} {KP:List PanicEntry->H->Prop} {σ:ku} {h:H} {n c N:Nat} (hB:Ud h b N) (hn:o+n<=N)
  (hK: ∀l:List UInt8,l.length=n->mq st σ h h/\kT G r K KP (nD σ d (str l)) h):nZ G .b2s d st r K KP [.slice (some ⟨b,o,none⟩) n c] σ h:=by
 obtain⟨k1,k2,k3⟩:=hB
 have hex: ∀m,m<=n-> ∃l:List UInt8,l.length=m/\qV h b o m=l.map sG:=by
  intro m
  induction m with
  |zero=>exact λ_=>⟨[],rfl,rfl⟩
  |succ m ih=>
   intro hm
   obtain⟨l,h1,h2⟩:=ih zO
   obtain⟨x,hx⟩:=k3 (o+m) zO
   refine⟨l++[x],by simp [h1],?_⟩
   unfold qV at h2 ⊢
   rw[List.range_succ,bH,h2,bH]
   simp [hx,sG]
 obtain⟨l,h1,h2⟩:=hex n (ak _)
 exact⟨by rw[k1];exact hn,l,h2,hK l h1⟩
def Yb(vs:List Value)(h:H)(K:Value->H->Prop):Prop:= ∃(u:U) (x:Int),vs=[Jx JT x,Jx JT 10]/\(-9223372036854775808<=x/\x<=9223372036854775807)/\Ac u h/\ ∀u' h' (s:List UInt8),jD S0 u h u' h'->s.length<=24->K (str s) h'
def UZ:lq:=λf vs h K _=>(f=196/\Ya vs h K)\/(f=197/\acL vs h K)\/(f=198/\ahz vs h K)
theorem KE:lQ Tryz.prog UZ:=lY UX (lY Qv (pX Qx))
theorem Qw(hC:Yb vs h K):kN Tryz.prog 195 vs h K KP:=by
 obtain⟨u,x,rfl,⟨x0,x1⟩,hP,hK⟩:=hC
 refine jJ 17188391667 [(none,(.t 4))] KE Tryz.func195 ?_
 by_cases q1:0<=x/\x<100
 ·obtain⟨n,rfl⟩: ∃n:Nat,x=n:=⟨x.toNat,zO⟩
  simp only[↓reduceIte,go_sem,ai q1.1,ai q1.2]
  refine jC (.inl ⟨rfl,n,rfl,zO,λs hs=>⟨jO,?_⟩⟩)
  simp only[↓reduceIte,go_sem,jN]
  exact hK u h s (.refl _ _ _) hs
 ·obtain⟨y,hy,hy0,hy1⟩: ∃y:Int,y=(if x<0 then IntKind.u64.wrap (0 - IntKind.u64.wrap x)else IntKind.u64.wrap x)/\0<=y/\y<=18446744073709551615:=by
   refine⟨_,rfl,?_⟩
   have e: ∀z,IntKind.u64.wrap z=z % 18446744073709551616:=λ_=>rfl
   rw[e,e];split<;>omega
  have sp:jD S0 u h (ub u h.size 0) (h.push (.cells #[(.int .u8 0),(.int .u8 0),(.int .u8 0),(.int .u8 0),(.int .u8 0),(.int .u8 0),(.int .u8 0),(.int .u8 0),(.int .u8 0),(.int .u8 0),(.int .u8 0),(.int .u8 0),(.int .u8 0),(.int .u8 0),(.int .u8 0),(.int .u8 0),(.int .u8 0),(.int .u8 0),(.int .u8 0),(.int .u8 0),(.int .u8 0),(.int .u8 0),(.int .u8 0),(.int .u8 0)] 267)):=jD.qZ S0 u h _ _
  have hB0:Ud (h.push (.cells #[(.int .u8 0),(.int .u8 0),(.int .u8 0),(.int .u8 0),(.int .u8 0),(.int .u8 0),(.int .u8 0),(.int .u8 0),(.int .u8 0),(.int .u8 0),(.int .u8 0),(.int .u8 0),(.int .u8 0),(.int .u8 0),(.int .u8 0),(.int .u8 0),(.int .u8 0),(.int .u8 0),(.int .u8 0),(.int .u8 0),(.int .u8 0),(.int .u8 0),(.int .u8 0),(.int .u8 0)] 267)) h.size 24:=by
   refine⟨by rw[uo rfl];rfl,uS rfl,λi hi=>⟨0,?_⟩⟩
   rw[yH rfl]
   have:(List.replicate 24 (Value.int .u8 0)).getD i undef=Value.int .u8 0:=by
    rw[aG,gI,ah hi];rfl
   exact this
  by_cases q2:x<0
  ·rw[ah q2]at hy
   simp only[↓reduceIte,go_sem,ae (show¬(0:Int)<=x by omega),ai q2,<-hy]
   refine jC (.inr (.inl ⟨rfl,_,y,rfl,hy0,hy1,hP.mono sp.ge,λn hn=>⟨jO,?_⟩⟩))
   have en:(1+(n:Int)).toNat - 1=n:=zO
   simp(disch:=omega) only[↓reduceIte,go_sem,NG,UV,en]
   refine⟨zO,zO,?_⟩
   refine jC (.inr (.inr ⟨rfl,ub u h.size 0,h.size,1,n,_,y,24,rfl,hy0,hy1,hn,hB0,zO,AX,λh2 s2 hB2=>⟨jO,?_⟩⟩))
   simp(disch:=omega) only[↓reduceIte,go_sem,hB2.1,hB2.2.1,ai q2,acJ,af3]
   refine⟨zO,zO,?_⟩
   have st2:jD S0 u h (ub u h.size 0) h2:=sp.trans s2 (λi hi e=>by have e:i=h.size:=e;omega)
   have hB3:Ud (ky h2 h.size 0 (.int .u8 45)) h.size 24:=hB2.set (x:=45)
   refine LH hB3 zO λl hl=>⟨jO,?_⟩
   simp only[↓reduceIte,go_sem,jN]
   exact hK _ _ l (st2.setR (.inl (ak _)) (by rw[AX];exact ak _)) zO
  ·rw[af q2]at hy
   simp only[↓reduceIte,go_sem,ai (show(0:Int)<=x by omega),ae (show¬x<100 by omega),ae q2,<-hy]
   refine jC (.inr (.inl ⟨rfl,_,y,rfl,hy0,hy1,hP.mono sp.ge,λn hn=>⟨jO,?_⟩⟩))
   have en:(1+(n:Int)).toNat - 1=n:=zO
   simp(disch:=omega) only[↓reduceIte,go_sem,NG,UV,en]
   refine⟨zO,zO,?_⟩
   refine jC (.inr (.inr ⟨rfl,ub u h.size 0,h.size,1,n,_,y,24,rfl,hy0,hy1,hn,hB0,zO,AX,λh2 s2 hB2=>⟨jO,?_⟩⟩))
   simp(disch:=omega) only[↓reduceIte,go_sem,ae q2,NG,UV,en]
   refine⟨zO,zO,?_⟩
   have st2:jD S0 u h (ub u h.size 0) h2:=sp.trans s2 (λi hi e=>by have e:i=h.size:=e;omega)
   refine LH hB2 zO λl hl=>⟨jO,?_⟩
   simp only[↓reduceIte,go_sem,jN]
   exact hK _ _ l st2 zO
def KF:lq:=λf vs h K _=>f=195/\Yb vs h K
theorem EB:lQ Tryz.prog KF:=pX Qw
theorem IM(hC:Yb vs h K):kN Tryz.prog 239 vs h K KP:=by
 obtain⟨u,x,rfl,hx,hP,hK⟩:=hC
 refine jJ 19 [(none,(.t 4))] EB Tryz.func239 ?_
 simp only[↓reduceIte,go_sem]
 refine jC ⟨rfl,u,x,rfl,hx,hP,λu' h' s st hs=>⟨jO,?_⟩⟩
 simp only[↓reduceIte,go_sem,jN]
 exact hK u' h' s st hs
end Go.Proofs.Z
namespace Go.Proofs.Z
open Go Go.Ev
variable {vs:List Value} {h:H} {K:Value->H->Prop} {KP:List PanicEntry->H->Prop}
abbrev Bu(k:Nat)(u:U)(h:H)(b:Nat)(l:List UInt8):Prop:=Ps 231 5 k u h b l
def YO(vs:List Value)(h:H)(K:Value->H->Prop):Prop:= ∃(k:Nat) (u:U) (b:Nat) (l:List UInt8),vs=[.pointer (some ⟨b,0,none⟩)]/\Bu k u h b l/\
 ∀h',jD (λi=>i=b) u h u h'->Bu k u h' b l->Go.Ev.hv h' b 1=Go.Ev.hv h b 1->K (.tuple #[]) h'
theorem WA(hC:YO vs h K):kN Tryz.prog 229 vs h K KP:=by
 obtain⟨k,u,b,l,rfl,B,hK⟩:=hC
 refine .inl ⟨by kernel_rfl,λw hw=> ?_⟩
 subst hw
 have hlt:=B.lt
 have hB:=B
 obtain⟨p,v,hb,hp,ho,hn,hu,hk,ht⟩:=B
 rcases hp with rfl|rfl
 ·have c0:w.cell? ⟨b,0,none⟩=some (.pointer none):=by rw[pY];unfold hc;rw[hb];rfl
  have sh:w.shape? b=some (231,2):=by unfold World.shape?;rw[hb];rfl
  have fz:w.frozen? ⟨b,0,none⟩=false:=Lib.frozen_of_heap hb 0
  refine(Any.Builder_copyCheck_fresh Tryz.lays240 Tryz.Builder_X72_240 b w c0 sh fz).mono ?_
  rintro e w' ⟨rfl,rfl⟩
  rw[Db]
  have sw:jD (λi=>i=b) u w.heap u (ky w.heap b 0 (.pointer (some ⟨b,0,none⟩))):=jD.set u w.heap _ rfl (by rw[hu];exact ak _)
  have hget:(ky w.heap b 0 (.pointer (some ⟨b,0,none⟩)))[b]? =some (.cells #[.pointer (some ⟨b,0,none⟩),v] 231 (0,0)):=by
   rw[mW,ah rfl,hb];rfl
  refine⟨⟨rfl,rfl,rfl⟩,hK _ sw ⟨_,v,hget,.inr rfl,@lm.step UInt8 repB8 _ _ _ _ _ _ _ _ ho sw (λi hi e=>hn (by have e:i=b:=e;rw[<-e];exact hi)),hn,hu,hk,λi hi=>by rw[IP];exact ht i hi⟩ (CR (.inr zD))⟩
 ·have c0:w.cell? ⟨b,0,none⟩=some (.pointer (some ⟨b,0,none⟩)):=by rw[pY];unfold hc;rw[hb];rfl
  refine(Any.Builder_copyCheck_used Tryz.lays240 Tryz.Builder_X72_240 b w c0).mono ?_
  rintro e w' ⟨rfl,rfl⟩
  exact⟨⟨rfl,rfl,rfl⟩,hK _ (.refl _ _ _) hB rfl⟩
def ahL(r:List UInt8->Value)(vs:List Value)(h:H)(m:List UInt8)(K:Value->H->Prop):Prop:= ∃(k:Nat) (u:U) (b:Nat) (l:List UInt8),vs.head? =some (.pointer (some ⟨b,0,none⟩))/\Bu k u h b l/\l.length+m.length<=140737488355328/\
 ∀u' h',jD (lZ h b) u h u' h'->Bu k u' h' b (l++m)->(∀i,lZ h' b i->lZ h b i\/h.size<=i)->K (r m) h'
def OD(vs:List Value)(h:H)(K:Value->H->Prop):Prop:= ∃(a:Value) (c:UInt8),vs=[a,.int .u8 c.toNat]/\ahL (λ_=> .nilIface) vs h [c] K
def EY(vs:List Value)(h:H)(K:Value->H->Prop):Prop:= ∃(a:Value) (m:List UInt8),vs=[a,str m]/\ahL (λm=> .tuple #[Jx JT m.length,.nilIface]) vs h m K
def YP(vs:List Value)(h:H)(K:Value->H->Prop):Prop:= ∃(k:Nat) (u:U) (b:Nat) (l m:List UInt8) (v:Value),vs=[.pointer (some ⟨b,0,none⟩),v]/\Bu k u h b l/\ahA u h v m/\l.length+m.length<=140737488355328/\
 ∀u' h',jD (lZ h b) u h u' h'->Bu k u' h' b (l++m)->(∀i,lZ h' b i->lZ h b i\/h.size<=i)->K (.tuple #[Jx JT m.length,.nilIface]) h'
def alB:lq:=λf vs h K _=>f=229/\YO vs h K
theorem OE:lQ Tryz.prog alB:=by
 rintro f vs h K KP ⟨rfl,hC⟩;exact WA hC
theorem pJ(hC:EY vs h K):kN Tryz.prog 226 vs h K KP:=by
 obtain⟨a,m,rfl,k,u,b,l,ha,B,hl,hK⟩:=hC
 obtain rfl:a= .pointer (some ⟨b,0,none⟩):=by simpa using ha
 refine jJ 51 [(none,(.t 4)),(none,(.t 5))] OE Tryz.func226 ?_
 simp only[↓reduceIte,go_sem]
 refine jC ⟨rfl,k,u,b,l,rfl,B,λh1 s1 B1 e1=>⟨jO,?_⟩⟩
 obtain⟨z1,z2,z3,ho,hn,hty⟩:=B1.open
 have hlt:=B1.lt
 have hkl:k<=h1.size:=aT (B1.ge (.inl rfl)).1 (dQ hlt)
 simp only[↓reduceIte,go_sem,z1]
 refine acN (acP (K:=λv' h'=> ∃u',KG k u' h' v' (l++m)/\jD (jL (Go.Ev.hv h1 b 1)) u h1 u' h'/\ ∀i,jL v' i->jL (Go.Ev.hv h1 b 1) i\/h1.size<=i) ho hkl hl λv' u' h' o' s' b'=>⟨u',o',s',b'⟩) λv' h2 hq hT=> ?_
 obtain⟨u2,o2,s2,b2⟩:=hq
 rw[e1]at s2 b2 hT
 obtain⟨f1,f2,f3⟩:=NH B s1 B1 e1 o2 s2 b2 hT
 have y1:lS h2 b=2:=by rw[(s2.ge.hs b hlt).1];exact z1
 have y2:tJ h2 b=(0,0):=by rw[(s2.ge.hs b hlt).2];exact z2
 refine⟨jO,?_⟩
 obtain⟨a',n',c',rfl⟩: ∃a' n' c',v'= .slice a' n' c':=by
  obtain⟨x,y,hv,-⟩:= @lm.sl UInt8 repB8 _ _ _ _ _ o2
  exact⟨_,_,_,hv⟩
 simp only[↓reduceIte,go_sem,y1,y2]
 exact hK _ _ f1 f2 f3
theorem AO(hC:OD vs h K):kN Tryz.prog 227 vs h K KP:=by
 obtain⟨a,c,rfl,k,u,b,l,ha,B,hl,hK⟩:=hC
 obtain rfl:a= .pointer (some ⟨b,0,none⟩):=by simpa using ha
 refine jJ 19 [(none,(.t 4))] OE Tryz.func227 ?_
 simp only[↓reduceIte,go_sem]
 refine jC ⟨rfl,k,u,b,l,rfl,B,λh1 s1 B1 e1=>⟨jO,?_⟩⟩
 obtain⟨z1,z2,z3,ho,hn,hty⟩:=B1.open
 have hlt:=B1.lt
 have hkl:k<=h1.size:=aT (B1.ge (.inl rfl)).1 (dQ hlt)
 have hin: ∀i,jL (Go.Ev.hv h1 b 1) i->i<h1.size:=λi hi=>(B1.ge (.inr hi)).2
 simp only[↓reduceIte,go_sem,z1]
 refine Yc (@CU UInt8 repB8 _ _ 5 _ _ _ [.int .u8 c.toNat] _ u h1 _ l c (λv' h'=> ∃u',KG k u' h' v' (l++[c])/\jD (jL (Go.Ev.hv h1 b 1)) u h1 u' h'/\ ∀i,jL v' i->jL (Go.Ev.hv h1 b 1) i\/h1.size<=i) _ ho rfl rfl rfl hkl (by simpa using hl) λv' u' h' o' s' b'=>⟨u',o',s',b'⟩) λv' h2 hq hT=> ?_
 obtain⟨u2,o2,s2,b2⟩:=hq
 have hT':af4 5 (Go.Ev.hv h1 b 1) h1 v' h2:=λi hi=>(hT i hi).imp id fun⟨q1,q2⟩=>⟨q1,by
  rw[q2];unfold Ad;rw[Array.getElem?_push_lt (hin i q1),dN (hin i q1)]⟩
 rw[e1]at s2 b2 hT'
 obtain⟨f1,f2,f3⟩:=NH B s1 B1 e1 o2 s2 b2 hT'
 have y1:lS h2 b=2:=by rw[(s2.ge.hs b hlt).1];exact z1
 have y2:tJ h2 b=(0,0):=by rw[(s2.ge.hs b hlt).2];exact z2
 refine⟨jO,?_⟩
 obtain⟨a',n',c',rfl⟩: ∃a' n' c',v'= .slice a' n' c':=by
  obtain⟨x,y,hv,-⟩:= @lm.sl UInt8 repB8 _ _ _ _ _ o2
  exact⟨_,_,_,hv⟩
 simp only[↓reduceIte,go_sem,y1,y2]
 exact hK _ _ f1 f2 f3
theorem WB(hC:YP vs h K):kN Tryz.prog 242 vs h K KP:=by
 obtain⟨k,u,b,l,m,v,rfl,B,hv,hl,hK⟩:=hC
 refine jJ 51 [(none,(.t 4)),(none,(.t 5))] OE Tryz.func242 ?_
 obtain⟨va,vc,rfl,-,-⟩:= @jS.sl UInt8 repB8 _ _ _ _ hv
 simp only[↓reduceIte,go_sem]
 refine jC ⟨rfl,k,u,b,l,rfl,B,λh1 s1 B1 e1=>⟨jO,?_⟩⟩
 obtain⟨z1,z2,z3,ho,hn,hty⟩:=B1.open
 have hlt:=B1.lt
 have hkl:k<=h1.size:=aT (B1.ge (.inl rfl)).1 (dQ hlt)
 have hv1:= @jS.mono UInt8 repB8 _ _ _ _ _ _ s1.ge hv
 simp only[↓reduceIte,go_sem,z1]
 refine Yc (@MQ UInt8 repB8 _ _ _ _ _ _ u h1 _ _ l m (λv' h'=> ∃u',KG k u' h' v' (l++m)/\jD (jL (Go.Ev.hv h1 b 1)) u h1 u' h'/\ ∀i,jL v' i->jL (Go.Ev.hv h1 b 1) i\/h1.size<=i) _ ho hv1 rfl rfl hkl (by simpa using hl) λv' u' h' o' s' b'=>⟨u',o',s',b'⟩) λv' h2 hq hT=> ?_
 obtain⟨u2,o2,s2,b2⟩:=hq
 rw[e1]at s2 b2 hT
 obtain⟨f1,f2,f3⟩:=NH B s1 B1 e1 o2 s2 b2 hT
 have y1:lS h2 b=2:=by rw[(s2.ge.hs b hlt).1];exact z1
 have y2:tJ h2 b=(0,0):=by rw[(s2.ge.hs b hlt).2];exact z2
 refine⟨jO,?_⟩
 obtain⟨a',n',c',rfl⟩: ∃a' n' c',v'= .slice a' n' c':=by
  obtain⟨x,y,hv,-⟩:= @lm.sl UInt8 repB8 _ _ _ _ _ o2
  exact⟨_,_,_,hv⟩
 simp only[↓reduceIte,go_sem,y1,y2]
 exact hK _ _ f1 f2 f3
def EZ(vs:List Value)(h:H)(K:Value->H->Prop):Prop:= ∃(k:Nat) (u:U) (b:Nat) (l:List UInt8),vs=[.pointer (some ⟨b,0,none⟩)]/\Bu k u h b l/\l≠[]/\
 ∀h',h.size<=h'.size->(∀i,i<k->h'[i]? =h[i]?)->K (str l) h'
theorem FX(hC:EZ vs h K):kN Tryz.prog 151 vs h K KP:=by
 obtain⟨k,u,b,l,rfl,B,hne,hK⟩:=hC
 refine .inl ⟨by kernel_rfl,λw hw=> ?_⟩
 subst hw
 refine(Tryz.Builder_String k b l w B.kit hne).mono ?_
 rintro e w' ⟨rfl,hB⟩
 exact⟨⟨hB.os,hB.tape,hB.output⟩,hK _ hB.size hB.block⟩
theorem jD.below{u0 u:U}{h0 h h':H}(s:jD S0 u0 h0 u h)(hs:h.size<=h'.size)(hb: ∀i,i<h0.size->h'[i]? =h[i]?):jD S0 u0 h0 u h':=by
 have key: ∀i,i<h0.size->h'[i]? =h0[i]? /\u i=u0 i:=λi hi=>by
  obtain⟨q1,q2⟩:=s.same i hi (λh=>h)
  exact⟨by rw[hb i hi,q1],q2⟩
 refine⟨⟨aT s.ge.sz hs,λi hi=>by rw[(key i hi).2];exact ak _,λi hi=> ?_,λi hi o _=> ?_⟩,λi hi _=>key i hi⟩
 ·unfold lS tJ;rw[(key i hi).1];exact⟨rfl,rfl⟩
 ·unfold Go.Ev.hv hc;rw[(key i hi).1]
theorem Bu.new(u:U)(h:H):Bu h.size (ub u h.size 0) (h.push (.cells #[.pointer none,.slice none 0 0] 231)) h.size []:=
 ⟨_,_,by rw[gy],.inl rfl,.inl ⟨rfl,rfl⟩,oG,AX,ak _,λi hi=>absurd hi oG⟩
end Go.Proofs.Z
namespace Go.Ev
open Go
variable {a b:Int} {h:H} {k k':IntKind} {op:BinOp}
theorem GX:v2 (.bits op) (.int k a) (.int k' b) h= .int k (xM op k a b):=(rfl)
theorem Ee:s2 (.bits op) (.int k a) (.int k' b) h=(if rF op then 0<=b else k=k'):=by simp [s2,kS,ti,tk]
theorem ajl: ∀a<256,0<=xM .shr .u8 ((a:Nat):Int) 4/\xM .shr .u8 ((a:Nat):Int) 4<16:=by decide+kernel
theorem ajm: ∀a<256,0<=xM .and .u8 ((a:Nat):Int) 15/\xM .and .u8 ((a:Nat):Int) 15<16:=by decide+kernel
theorem alA(u:U)(h:H)(e:TypeId)(x y:UInt8):ahA (ub u h.size 2) (h.push (.cells #[.int .u8 x.toNat,.int .u8 y.toNat] e)) (.slice (some ⟨h.size,0,none⟩) 2 2) [x,y]:=by
 have:= @lm.iZ UInt8 repB8 _ _ _ _ _ (@lm.made UInt8 repB8 0 u h (aj _) e [x,y] [.int .u8 x.toNat,.int .u8 y.toNat] rfl (by simp only[au,aA];decide) (λi z hz=> ?_))
 ·exact this
 ·match i,hz with
  |0,hz=>cases hz;rfl
  |1,hz=>cases hz;rfl
end Go.Ev
namespace Go.Proofs.Z
open Go Go.Ev Edict
variable {vs:List Value} {h:H} {K:Value->H->Prop} {KP:List PanicEntry->H->Prop}
def SX(vs:List Value)(h:H)(K:Value->H->Prop):Prop:= ∃c:UInt8,vs=[.int .u8 c.toNat]/\ ∀d:UInt8,K (.int .u8 d.toNat) h
theorem SY(hC:SX vs h K):kN Tryz.prog 241 vs h K KP:=by
 obtain⟨c,rfl,hK⟩:=hC
 refine jJ 5405 [(none,(.t 2))] (G:=(λ_ _ _ _ _=>False)) (λ_ _ _ _ _ h=>h.elim) Tryz.func241 ?_
 by_cases h1:(c.toNat:Int)=34
 ·simp only[↓reduceIte,go_sem,ai h1]
  exact hK c
 by_cases h2:(c.toNat:Int)=92
 ·simp only[↓reduceIte,go_sem,ae h1,ai h2]
  exact hK c
 by_cases h3:(c.toNat:Int)=10
 ·simp only[↓reduceIte,go_sem,ae h1,ae h2,ai h3]
  exact hK 110
 by_cases h4:(c.toNat:Int)=9
 ·simp only[↓reduceIte,go_sem,ae h1,ae h2,ae h3,ai h4]
  exact hK 116
 by_cases h5:(c.toNat:Int)=13
 ·simp only[↓reduceIte,go_sem,ae h1,ae h2,ae h3,ae h4,ai h5]
  exact hK 114
 ·simp only[↓reduceIte,go_sem,ae h1,ae h2,ae h3,ae h4,ae h5]
  exact hK 0
def Ta(vs:List Value)(h:H)(K:Value->H->Prop):Prop:= ∃(u:U) (s:List UInt8),vs=[str s]/\s.length<=255/\ ∀u' h' (l:List UInt8),jD S0 u h u' h'->l.length<=2048->K (str l) h'
def Wz:lq:=λf vs h K _=>(f=241/\SX vs h K)\/(f=227/\OD vs h K)\/(f=226/\EY vs h K)\/(f=242/\YP vs h K)\/(f=151/\EZ vs h K)
theorem KW:lQ Tryz.prog Wz:=lY SY (lY AO (lY pJ (lY WB (pX FX))))
theorem Tc(hC:Ta vs h K):kN Tryz.prog 240 vs h K KP:=by
 obtain⟨u,s,rfl,hs,hK⟩:=hC
 refine jJ 4362083949 [(none,(.t 2))] KW Tryz.func240 ?_
 simp only[↓reduceIte,go_sem]
 have sp:jD S0 u h _ _:=jD.qZ S0 u h #[.pointer none,.slice none 0 0] 231
 have B0:=Bu.new u h
 refine jC (.inr (.inl ⟨rfl,_,34,rfl,h.size,_,h.size,[],rfl,B0,zD,λu1 h1 s1 B1 hb1=>⟨jO,?_⟩⟩))
 have st1:jD S0 u h u1 h1:=sp.trans s1 (λi hi hB=>by have:=(B0.ge hB).1;omega)
 simp only[↓reduceIte,go_sem,jN]
 refine Px u1 zO λcap u2 h2 hcap s2 hlt2 hz hcell=>⟨jO,?_⟩
 obtain⟨B2,e2⟩:=B1.sZ s2
 have st2:=st1.tZ s2
 obtain⟨r,hr⟩:=kg h1.size
 rw[<-hr]at hlt2 hz hcell
 have hnr: ¬lZ h2 h.size r:=λhB=>by
  have hB:lZ h1 h.size r:=by
   rcases hB with hB|hB
   ·exact .inl hB
   ·exact .inr (by rw[e2]at hB;exact hB)
  have:=(B1.ge hB).2
  omega
 simp only[↓reduceIte,go_sem,<-hr]
 obtain⟨I,hI⟩:=kg (α:=Nat->ku->H->Prop) λi σ h'=>σ 3= .pointer (some ⟨h.size,0,none⟩)/\σ 9= .slice (some ⟨r,0,none⟩) s.length cap/\σ 10= Jx JT s.length/\σ 11= Jx JT i/\i<=s.length/\
  ∃(u':U) (l:List UInt8),jD S0 u h u' h'/\Bu h.size u' h' h.size l/\l.length<=1+4*i/\r<h'.size/\ ¬lZ h' h.size r/\s.length<=lS h' r/\ ∀(j:Nat) (b:UInt8),s[j]? =some b->Go.Ev.hv h' r j= .int .u8 b.toNat
 refine jE I (λi=>s.length - i) 0 (by
  rw[hI]
  exact⟨zJ,zJ,zJ,zJ,aj _,u2,_,st2,B2,zP,hlt2,hnr,hz,hcell⟩) ?_
 clear hz hcell hnr B2 st2 s2 B1 st1 s1 hb1 e2 B0 sp hlt2 hr
 intro i σ h' hy
 rw[hI]at hy
 obtain⟨e3,e9,e10,e11,hi,u',l,st,B,hl,hrl,hnr,hz,hcell⟩:=hy
 by_cases hlt:i<s.length
 ·obtain⟨c,hc⟩:=qP hlt
  have hci:=hcell i c hc
  have hc256:=c.toNat_lt
  -- the next round
  have next: ∀(σ':ku) (u3:U) (h3:H) (m:List UInt8),σ' 3=σ 3->σ' 9=σ 9->σ' 10=σ 10->σ' 11= Jx JT ((i:Int)+1)->jD (lZ h' h.size) u' h' u3 h3->Bu h.size u3 h3 h.size (l++m)->m.length<=4->
    (∀j,lZ h3 h.size j->lZ h' h.size j\/h'.size<=j)-> ∃y,I y σ' h3/\s.length - y<s.length - i:=λσ' u3 h3 m g3 g9 g10 g11 s3 B3 hm hb3=>by
   refine⟨i+1,?_,zO⟩
   rw[hI]
   obtain⟨q1,q2⟩:=s3.same r hrl hnr
   refine⟨by rw[g3,e3],by rw[g9,e9],by rw[g10,e10],g11,hlt,u3,_,st.trans s3 (λj hj hB=>by have:=(B.ge hB).1;omega),B3,by rw[ay];omega,bP hrl s3.ge.sz,λhB=> ?_,by rw[(s3.ge.hs r hrl).1];exact hz,λj b hb=>by unfold Go.Ev.hv Go.Ev.hc;rw[q1];exact hcell j b hb⟩
   rcases hb3 r hB with hB|hB
   ·exact hnr hB
   ·omega
  simp(disch:=omega) only[↓reduceIte,go_sem,e9,e10,e11,hlt,hci,dz]
  refine jC (.inl ⟨rfl,c,rfl,λd=>⟨jO,?_⟩⟩)
  by_cases hd:(d.toNat:Int)=0
  ·by_cases hp:32<=(c.toNat:Int)/\(c.toNat:Int)<=126
   ·simp only[↓reduceIte,go_sem,e3,ai hd,ai hp.1,ai hp.2]
    refine jC (.inr (.inl ⟨rfl,_,c,rfl,h.size,u',h.size,l,rfl,B,by simp;omega,λu3 h3 s3 B3 hb3=>⟨jO,?_⟩⟩))
    simp(disch:=omega) only[↓reduceIte,go_sem,e11]
    exact next _ u3 h3 [c] zJ zJ zJ zJ s3 B3 zP hb3
   ·have hsh:=ajl c.toNat hc256
    have hlo:=ajm c.toNat hc256
    have chain: ∀{ua ub uc:U} {ha hb hc:H},jD (lZ ha h.size) ua ha ub hb->(∀j,lZ hb h.size j->lZ ha h.size j\/ha.size<=j)->jD (lZ hb h.size) ub hb uc hc->(∀j,lZ hc h.size j->lZ hb h.size j\/hb.size<=j)->
      jD (lZ ha h.size) ua ha uc hc/\ ∀j,lZ hc h.size j->lZ ha h.size j\/ha.size<=j:=λp1 p2 p3 p4=>
     ⟨p1.trans p3 (λj hj hB=>(p2 j hB).elim id (λh=>zO)),λj hB=>(p4 j hB).elim (p2 j) (λh=> .inr (aT p1.ge.sz h))⟩
    by_cases q:32<=(c.toNat:Int)
    ·have q2: ¬(c.toNat:Int)<=126:=λh=>hp ⟨q,h⟩
     simp only[↓reduceIte,go_sem,e3,ai hd,ai q,ae q2]
     refine jC (.inr (.inr (.inl ⟨rfl,_,[92,120],rfl,h.size,u',h.size,l,rfl,B,by simp;omega,λu3 h3 s3 B3 hb3=>⟨jO,?_⟩⟩)))
     simp only[↓reduceIte,go_sem,e3,GX,Ee,rF]
     refine⟨hsh.1,hsh.2,?_⟩
     refine jC (.inr (.inl ⟨rfl,_,_,rfl,h.size,u3,h.size,_,rfl,B3,by simp;omega,λu4 h4 s4 B4 hb4=>⟨jO,?_⟩⟩))
     simp only[↓reduceIte,go_sem,e3,GX,Ee,rF]
     refine⟨hlo.1,hlo.2,?_⟩
     refine jC (.inr (.inl ⟨rfl,_,_,rfl,h.size,u4,h.size,_,rfl,B4,by simp;omega,λu5 h5 s5 B5 hb5=>⟨jO,?_⟩⟩))
     simp(disch:=omega) only[↓reduceIte,go_sem,e11]
     obtain⟨c1,c2⟩:=chain s3 hb3 s4 hb4
     obtain⟨c3,c4⟩:=chain c1 c2 s5 hb5
     rw[bE,bE]at B5
     exact next _ u5 h5 _ zJ zJ zJ zJ c3 B5 zP c4
    ·simp only[↓reduceIte,go_sem,e3,ai hd,ae q]
     refine jC (.inr (.inr (.inl ⟨rfl,_,[92,120],rfl,h.size,u',h.size,l,rfl,B,by simp;omega,λu3 h3 s3 B3 hb3=>⟨jO,?_⟩⟩)))
     simp only[↓reduceIte,go_sem,e3,GX,Ee,rF]
     refine⟨hsh.1,hsh.2,?_⟩
     refine jC (.inr (.inl ⟨rfl,_,_,rfl,h.size,u3,h.size,_,rfl,B3,by simp;omega,λu4 h4 s4 B4 hb4=>⟨jO,?_⟩⟩))
     simp only[↓reduceIte,go_sem,e3,GX,Ee,rF]
     refine⟨hlo.1,hlo.2,?_⟩
     refine jC (.inr (.inl ⟨rfl,_,_,rfl,h.size,u4,h.size,_,rfl,B4,by simp;omega,λu5 h5 s5 B5 hb5=>⟨jO,?_⟩⟩))
     simp(disch:=omega) only[↓reduceIte,go_sem,e11]
     obtain⟨c1,c2⟩:=chain s3 hb3 s4 hb4
     obtain⟨c3,c4⟩:=chain c1 c2 s5 hb5
     rw[bE,bE]at B5
     exact next _ u5 h5 _ zJ zJ zJ zJ c3 B5 zP c4
  ·simp(disch:=omega) only[↓reduceIte,go_sem,e3,ae hd]
   have sp:jD S0 u' h' (ub u' h'.size 2) (h'.push (.cells #[.int .u8 92,.int .u8 d.toNat] 5)):=jD.push S0 u' h' _ _ 2
   obtain⟨B2,e2⟩:=B.sZ sp
   have hy:=alA u' h' 5 92 d
   refine jC (.inr (.inr (.inr (.inl ⟨rfl,h.size,_,h.size,l,[92,d],_,rfl,B2,hy,by simp;omega,λu3 h3 s3 B3 hb3=>⟨jO,?_⟩⟩))))
   simp(disch:=omega) only[↓reduceIte,go_sem,e11]
   have eB: ∀j,lZ (h'.push (.cells #[.int .u8 92,.int .u8 d.toNat] 5)) h.size j->lZ h' h.size j:=λj hB=>hB.imp id λhB=>by rw[e2]at hB;exact hB
   exact next _ u3 h3 [92,d] zJ zJ zJ zJ ((sp.mono (S':=lZ h' h.size) (λ_ _ h=>h.elim)).trans s3 (λj _ hB=>eB j hB)) B3 zP (λj hB=>(hb3 j hB).imp (eB j) (λh=>by simp at h;omega))
 ·obtain rfl:i=s.length:=zO
  simp only[↓reduceIte,go_sem,e3,e10,e11]
  refine jC (.inr (.inl ⟨rfl,_,34,rfl,h.size,u',h.size,l,rfl,B,by simp;omega,λu3 h3 s3 B3 hb3=>⟨jO,?_⟩⟩))
  simp only[↓reduceIte,go_sem,e3]
  have st3:jD S0 u h u3 h3:=st.trans s3 (λj hj hB=>by have:=(B.ge hB).1;omega)
  refine jC (.inr (.inr (.inr (.inr ⟨rfl,h.size,u3,h.size,_,rfl,B3,zP,λh4 hs4 hb4=>⟨jO,?_⟩⟩))))
  simp only[↓reduceIte,go_sem,jN]
  exact hK u3 h4 _ (jD.below st3 hs4 hb4) (by rw[ay,aZ];omega)
end Go.Proofs.Z
namespace Edict
theorem SN{s:List UInt8}(h:qY s=true):s.length<=64:=by
 unfold qY at h
 simp only[aM]at h
 have:=h.2
 cases s with
 |nil=>exact aj _
 |cons b r=>simp only[zn,aM,aL]at this;simpa using this.1
theorem agQ{s:List UInt8}(h:JM s=true):s.length<=64:=by
 unfold JM at h
 cases s with
 |nil=>exact aj _
 |cons b r=>simp only[zn,aM,aL]at h;simpa using h.1
end Edict
namespace Go.Proofs.Z
open Go Go.Ev Edict
variable {vs:List Value} {h:H} {K:Value->H->Prop} {KP:List PanicEntry->H->Prop}
def adU(vs:List Value)(h:H)(K:Value->H->Prop):Prop:= ∃(u:U) (c:jK),vs=[.agg #[Jx JT c.1,Jx JT c.2.1,str c.2.2]]/\Rep.wf c/\Ac u h/\ ∀u' h' (l:List UInt8),jD S0 u h u' h'->l.length<=2048->K (str l) h'
def adV:lq:=λf vs h K _=>(f=181/\lL (vB qN) vs h K)\/(f=239/\Yb vs h K)\/(f=240/\Ta vs h K)
theorem SQ:lQ Tryz.prog adV:=lY FQ (lY IM (pX Tc))
theorem aaI(hC:adU vs h K):kN Tryz.prog 238 vs h K KP:=by
 obtain⟨u,⟨kk,ki,ks⟩,rfl,hw,hP,hK⟩:=hC
 have hw':=hw
 obtain⟨hw1,hw2,hw3⟩:=hw'
 refine jJ 8615 [(none,(.t 2))] SQ Tryz.func238 ?_
 simp(disch:=omega) only[↓reduceIte,go_sem]
 have sp:jD S0 u h _ _:=jD.qZ S0 u h #[Jx JT kk,Jx JT ki,str ks] 108
 have B:jR (ub u h.size 0) (h.push (.cells #[Jx JT kk,Jx JT ki,str ks] 108)) h.size [Jx JT kk,Jx JT ki,str ks]:=(jR.mk zY zE zE (by repeat (first|(refine lU ?_;simp only[];done)|apply kG)) zE)
 refine jC (.inl ⟨rfl,ub u h.size 0,(kk,ki,ks),[Jx JT kk,Jx JT ki,str ks],rfl,by rw[mZ],hw,λu1 h1 s1=>⟨jO,?_⟩⟩)
 have B1:=B.sZ s1
 have st1:=sp.tZ s1
 simp only[vB]
 cases hv:qN (kk,ki,ks)with
 |false=>
  simp only[↓reduceIte,go_sem,jN]
  exact hK _ _ [] st1 (aj _)
 |true=>
  unfold qN at hv
  simp only at hv
  by_cases h1:kk=1
  ·simp(disch:=first|omega|simp only[zz];try omega;done) only[↓reduceIte,go_sem,B1.at,B1.2.1,ai h1]
   refine jC (.inr (.inl ⟨rfl,u1,ki,rfl,hw2,hP.mono st1.ge,λu2 h2 s st2 hs=>⟨jO,?_⟩⟩))
   simp only[↓reduceIte,go_sem,jN]
   exact hK _ _ s (st1.tZ st2) zO
  ·rw[af h1]at hv
   by_cases h2:kk=2
   ·rw[ah h2,aM]at hv
    have:=SN hv.2
    simp(disch:=first|omega|simp only[zz];try omega;done) only[↓reduceIte,go_sem,B1.at,B1.2.1,ae h1,ai h2]
    exact hK _ _ ks st1 zO
   ·rw[af h2]at hv
    by_cases h3:kk=3
    ·rw[ah h3,aM,aL,aL]at hv
     simp(disch:=first|omega|simp only[zz];try omega;done) only[↓reduceIte,go_sem,B1.at,B1.2.1,ae h1,ae h2]
     refine jC (.inr (.inr ⟨rfl,u1,ks,rfl,hv.2,λu2 h2 s st2 hs=>⟨jO,?_⟩⟩))
     simp only[↓reduceIte,go_sem,jN]
     exact hK _ _ s (st1.tZ st2) hs
    ·rw[af h3]at hv;cases hv
def WrK(N:Nat)(h:H)(b:Nat)(K:Value->H->Prop):Prop:= ∃(k:Nat) (u:U) (l:List UInt8),Bu k u h b l/\l.length<=1048576/\Ac u h/\
 ∀u' h' (m:List UInt8),jD (lZ h b) u h u' h'->Bu k u' h' b (l++m)->m.length<=N->(∀i,lZ h' b i->lZ h b i\/h.size<=i)->K (.tuple #[]) h'
def SS(vs:List Value)(h:H)(K:Value->H->Prop):Prop:= ∃(b:Nat) (c:jK),vs=[.agg #[Jx JT c.1,Jx JT c.2.1,str c.2.2],.pointer (some ⟨b,0,none⟩)]/\Rep.wf c/\WrK 2048 h b K
def Wx:lq:=λf vs h K _=>(f=238/\adU vs h K)\/(f=226/\EY vs h K)
theorem KV:lQ Tryz.prog Wx:=lY aaI (pX pJ)
theorem OB{k:Nat}{u u1 u2:U}{h h1 h2:H}{b:Nat}{l:List UInt8}(B:Bu k u h b l)(s1:jD S0 u h u1 h1)(s2:jD (lZ h1 b) u1 h1 u2 h2)(hb: ∀i,lZ h2 b i->lZ h1 b i\/h1.size<=i):
  jD (lZ h b) u h u2 h2/\ ∀i,lZ h2 b i->lZ h b i\/h.size<=i:=by
 obtain⟨-,e⟩:=B.sZ s1
 have eB: ∀j,lZ h1 b j->lZ h b j:=λj hB=>hB.imp id λhB=>by rw[e]at hB;exact hB
 exact⟨(s1.mono (S':=lZ h b) (λ_ _ h=>h.elim)).trans s2 (λj _ hB=>eB j hB),λi hB=>(hb i hB).imp (eB i) (aT s1.ge.sz)⟩
theorem SV(hC:SS vs h K):kN Tryz.prog 237 vs h K KP:=by
 obtain⟨b,⟨kk,ki,ks⟩,rfl,hw,k,u,l,B,hl,hP,hK⟩:=hC
 refine jJ 7 [] KV Tryz.func237 ?_
 simp(disch:=omega) only[↓reduceIte,go_sem]
 have sp:jD S0 u h _ _:=jD.qZ S0 u h #[Jx JT kk,Jx JT ki,str ks] 304
 refine jC (.inl ⟨rfl,_,(kk,ki,ks),rfl,hw,hP.mono sp.ge,λu1 h1 s s1 hs=>⟨jO,?_⟩⟩)
 have st1:=sp.tZ s1
 obtain⟨B1,-⟩:=B.sZ st1
 simp only[↓reduceIte,go_sem,jN]
 refine jC (.inr ⟨rfl,_,s,rfl,k,u1,b,l,rfl,B1,zO,λu2 h2 s2 B2 hb2=>⟨jO,?_⟩⟩)
 obtain⟨c1,c2⟩:=OB B st1 s2 hb2
 simp only[go_sem,jN]
 exact hK u2 h2 s c1 B2 hs c2
def YN(vs:List Value)(h:H)(K:Value->H->Prop):Prop:= ∃(b:Nat) (t:jM),vs=[.agg (jM.enc t).toArray,.pointer (some ⟨b,0,none⟩)]/\Rep.wf t/\mY t=0/\WrK 2048 h b K
def aaJ:lq:=λf vs h K _=>(f=170/\rR vs h K)\/(f=237/\SS vs h K)\/(f=226/\EY vs h K)
theorem OC:lQ Tryz.prog aaJ:=lY BV (lY SV (pX pJ))
theorem Wy(hC:YN vs h K):kN Tryz.prog 236 vs h K KP:=by
 obtain⟨b,⟨tk,ti,ts,to⟩,rfl,⟨w1,w2,w3,w4⟩,ht,k,u,l,B,hl,hP,hK⟩:=hC
 refine jJ 71 [] OC Tryz.func236 ?_
 have sp:jD S0 u h _ _:=jD.qZ S0 u h #[Jx JT tk,Jx JT ti,str ts,Jx JT to] 296
 obtain⟨B1,-⟩:=B.sZ sp
 by_cases h4:tk=4
 ·have hlen:ts.length<=64:=by
   unfold mY at ht
   simp only[ah h4]at ht
   by_cases q:ti=0/\JM ts=true
   ·exact agQ q.2
   ·rw[af q]at ht;cases ht
  simp(disch:=omega) only[↓reduceIte,go_sem,jM.enc,ai h4]
  refine jC (.inr (.inr ⟨rfl,_,ts,rfl,k,_,b,l,rfl,B1,zO,λu2 h2 s2 B2 hb2=>⟨jO,?_⟩⟩))
  obtain⟨c1,c2⟩:=OB B sp s2 hb2
  simp only[go_sem,jN]
  exact hK u2 h2 ts c1 B2 zO c2
 ·simp(disch:=omega) only[↓reduceIte,go_sem,jM.enc,ae h4]
  refine jC (.inl ⟨rfl,ub u h.size 0,(tk,ti,ts,to),rfl,λu1 h1 s1=>⟨jO,?_⟩⟩)
  have st1:=sp.tZ s1
  obtain⟨B2,-⟩:=B.sZ st1
  simp only[↓reduceIte,go_sem,jN]
  refine jC (.inr (.inl ⟨rfl,b,(tk,ti,ts),rfl,⟨w1,w2,w3⟩,k,u1,l,B2,hl,hP.mono st1.ge,λu2 h2 m s2 B3 hm hb2=>⟨jO,?_⟩⟩))
  obtain⟨c1,c2⟩:=OB B st1 s2 hb2
  simp only[go_sem,jN]
  exact hK u2 h2 m c1 B3 hm c2
end Go.Proofs.Z
