/- A part of the proof. -/
import Derived.Test.YtgjkkjeakagomaaGreatDoorRefS
import Derived.Test.YtgjkkjeakagomaaGreatDoorEvE
set_option linter.all false
set_option maxRecDepth 100000
set_option maxHeartbeats 4000000
open Go.Value renaming int→Jx
open Go.IntKind renaming i64→JT
namespace Go.Ev
open Go
theorem ahw{n:Int}(h1:0<=n)(h2:n<=4294967295):IntKind.u32.wrap n=n:=by
 show n % 4294967296=n
 omega
theorem akE{n:Int}(h1:0<=n)(h2:n<=18446744073709551615):IntKind.u64.wrap n=n:=by
 show n % 18446744073709551616=n
 omega
theorem ahx{a b:Int}(h:0<=a):a.tmod b=a % b:=ed h
theorem ahy{a b:Int}(h:0<=a):a.tdiv b=a / b:=fe h
def Ud(h:H)(b n:Nat):Prop:=lS h b=n/\tJ h b=(0,0)/\ ∀i,i<n-> ∃x:UInt8,Go.Ev.hv h b i= .int .u8 x.toNat
theorem Ud.set{h:H}{b n o:Nat}{x:UInt8}(k:Ud h b n):Ud (ky h b o (.int .u8 x.toNat)) b n:=by
 obtain⟨k1,k2,k3⟩:=k
 refine⟨by rw[Nk];exact k1,by rw[Nl];exact k2,λi hi=> ?_⟩
 by_cases e:i=o
 ·subst e
  refine⟨x,?_⟩
  unfold Go.Ev.hv hc
  rw[mW,ah rfl]
  unfold lS at k1
  cases hx:h[b]? with
  |none=>rw[hx]at k1;simp at k1;omega
  |some o=>
   rw[hx]at k1
   cases o with
   |cells c t f=>simp only at k1;simp [k1,hi]
   |_=>simp at k1;omega
 ·rw[CR (.inr e)];exact k3 i hi
theorem Ud.setw{h:H}{b n o:Nat}{z:Int}(k:Ud h b n):Ud (ky h b o (.int .u8 (IntKind.u8.wrap z))) b n:=by
 have e:IntKind.u8.wrap z=((UInt8.ofNat (z % 256).toNat).toNat:Int):=by
  have:IntKind.u8.wrap z=z % 256:=rfl
  rw[this,UInt8.toNat_ofNat']
  omega
 rw[e];exact k.set
end Go.Ev
namespace Go.Proofs.Z
open Go Go.Ev
theorem acM:mI.length=200:=by kernel_rfl
def ahz(vs:List Value)(h:H)(K:Value->H->Prop):Prop:= ∃(u:U) (b o n c:Nat) (x:Int) (N:Nat),vs=[.slice (some ⟨b,o,none⟩) n c,.int .u64 x]/\0<=x/\x<=18446744073709551615/\n<=20/\Ud h b N/\o+n<=N/\u b=0/\
 ∀h',jD (λi=>i=b) u h u h'->Ud h' b N->K (.tuple #[]) h'
set_option maxHeartbeats 1000000 in
theorem Qx{vs:List Value}{h:H}{K:Value->H->Prop}{KP:List PanicEntry->H->Prop}(hC:ahz vs h K):kN Tryz.prog 198 vs h K KP:=by
 obtain⟨u,b,o,n,c,x,N,rfl,hx0,Ub,hn,hB,hN,hu,hK⟩:=hC
 refine jJ 2923003971560093291123168138537876760321514930163 [] (G:=(λ_ _ _ _ _=>False)) (λ_ _ _ _ _ h=>h.elim) Tryz.func198 ?_ (by kernel_rfl) (by apply c0 rfl;repeat' first|apply cS|apply cK|apply cL|apply cX|(apply cC zD)|with_reducible exact cV 7 (.sts [(zq .sub (.t 4) (zv 1)),(zq .sub (.t 4) (zv 2)),(zq .add (.t 9) (.c (.int .u32 1))),(.chk [] (.c2 .idxS (.c (str mI)) (zb .add (.t 9) (.c (.int .u32 1))))),(.chk [] (.c2 .idxS (.c (str mI)) (.t 9))),(zx 1 (.t 0) (zb .sub (.t 4) (zv 1))),(.eff [] none (.store 1) [(zi 1 (.t 0) (zb .sub (.t 4) (zv 1))),(.o2 .idxS (.c (str mI)) (zb .add (.t 9) (.c (.int .u32 1))))] []),(zx 1 (.t 0) (zb .sub (.t 4) (zv 2))),(.eff [] none (.store 1) [(zi 1 (.t 0) (zb .sub (.t 4) (zv 2))),(.o2 .idxS (.c (str mI)) (.t 9))] [])]) (by kernel_rfl)|with_reducible exact cV 8 (.sts [(zq .sub (.t 4) (zv 3)),(zq .sub (.t 4) (zv 4)),(zq .add (.t 8) (.c (.int .u32 1))),(.chk [] (.c2 .idxS (.c (str mI)) (zb .add (.t 8) (.c (.int .u32 1))))),(.chk [] (.c2 .idxS (.c (str mI)) (.t 8))),(zx 1 (.t 0) (zb .sub (.t 4) (zv 3))),(.eff [] none (.store 1) [(zi 1 (.t 0) (zb .sub (.t 4) (zv 3))),(.o2 .idxS (.c (str mI)) (zb .add (.t 8) (.c (.int .u32 1))))] []),(zx 1 (.t 0) (zb .sub (.t 4) (zv 4))),(.eff [] none (.store 1) [(zi 1 (.t 0) (zb .sub (.t 4) (zv 4))),(.o2 .idxS (.c (str mI)) (.t 8))] [])]) (by kernel_rfl)|with_reducible exact cV 9 (.sts [(zq .sub (.t 4) (zv 5)),(zq .sub (.t 4) (zv 6)),(zq .add (.t 11) (.c (.int .u32 1))),(.chk [] (.c2 .idxS (.c (str mI)) (zb .add (.t 11) (.c (.int .u32 1))))),(.chk [] (.c2 .idxS (.c (str mI)) (.t 11))),(zx 1 (.t 0) (zb .sub (.t 4) (zv 5))),(.eff [] none (.store 1) [(zi 1 (.t 0) (zb .sub (.t 4) (zv 5))),(.o2 .idxS (.c (str mI)) (zb .add (.t 11) (.c (.int .u32 1))))] []),(zx 1 (.t 0) (zb .sub (.t 4) (zv 6))),(.eff [] none (.store 1) [(zi 1 (.t 0) (zb .sub (.t 4) (zv 6))),(.o2 .idxS (.c (str mI)) (.t 11))] [])]) (by kernel_rfl)|with_reducible exact cV 10 (.sts [(zq .sub (.t 4) (zv 7)),(zq .sub (.t 4) (zv 8)),(zq .add (.t 10) (.c (.int .u32 1))),(.chk [] (.c2 .idxS (.c (str mI)) (zb .add (.t 10) (.c (.int .u32 1))))),(.chk [] (.c2 .idxS (.c (str mI)) (.t 10))),(zx 1 (.t 0) (zb .sub (.t 4) (zv 7))),(.eff [] none (.store 1) [(zi 1 (.t 0) (zb .sub (.t 4) (zv 7))),(.o2 .idxS (.c (str mI)) (zb .add (.t 10) (.c (.int .u32 1))))] []),(zx 1 (.t 0) (zb .sub (.t 4) (zv 8))),(.eff [] none (.store 1) [(zi 1 (.t 0) (zb .sub (.t 4) (zv 8))),(.o2 .idxS (.c (str mI)) (.t 10))] [])]) (by kernel_rfl)|with_reducible exact cV 17 (.sts [(zq .sub (.t 4) (zv 1)),(zq .sub (.t 4) (zv 2)),(zq .add (.t 15) (.c (.int .u32 1))),(.chk [] (.c2 .idxS (.c (str mI)) (zb .add (.t 15) (.c (.int .u32 1))))),(.chk [] (.c2 .idxS (.c (str mI)) (.t 15))),(zx 1 (.t 0) (zb .sub (.t 4) (zv 1))),(.eff [] none (.store 1) [(zi 1 (.t 0) (zb .sub (.t 4) (zv 1))),(.o2 .idxS (.c (str mI)) (zb .add (.t 15) (.c (.int .u32 1))))] []),(zx 1 (.t 0) (zb .sub (.t 4) (zv 2))),(.eff [] none (.store 1) [(zi 1 (.t 0) (zb .sub (.t 4) (zv 2))),(.o2 .idxS (.c (str mI)) (.t 15))] [])]) (by kernel_rfl)|with_reducible exact cV 18 (.sts [(zq .sub (.t 4) (zv 3)),(zq .sub (.t 4) (zv 4)),(zq .add (.t 14) (.c (.int .u32 1))),(.chk [] (.c2 .idxS (.c (str mI)) (zb .add (.t 14) (.c (.int .u32 1))))),(.chk [] (.c2 .idxS (.c (str mI)) (.t 14))),(zx 1 (.t 0) (zb .sub (.t 4) (zv 3))),(.eff [] none (.store 1) [(zi 1 (.t 0) (zb .sub (.t 4) (zv 3))),(.o2 .idxS (.c (str mI)) (zb .add (.t 14) (.c (.int .u32 1))))] []),(zx 1 (.t 0) (zb .sub (.t 4) (zv 4))),(.eff [] none (.store 1) [(zi 1 (.t 0) (zb .sub (.t 4) (zv 4))),(.o2 .idxS (.c (str mI)) (.t 14))] [])]) (by kernel_rfl)|with_reducible exact cV 23 (.sts [(zq .sub (.t 4) (zv 1)),(zq .sub (.t 4) (zv 2)),(zq .add (.t 16) (.c (.int .u32 1))),(.chk [] (.c2 .idxS (.c (str mI)) (zb .add (.t 16) (.c (.int .u32 1))))),(.chk [] (.c2 .idxS (.c (str mI)) (.t 16))),(zx 1 (.t 0) (zb .sub (.t 4) (zv 1))),(.eff [] none (.store 1) [(zi 1 (.t 0) (zb .sub (.t 4) (zv 1))),(.o2 .idxS (.c (str mI)) (zb .add (.t 16) (.c (.int .u32 1))))] []),(zx 1 (.t 0) (zb .sub (.t 4) (zv 2))),(.eff [] none (.store 1) [(zi 1 (.t 0) (zb .sub (.t 4) (zv 2))),(.o2 .idxS (.c (str mI)) (.t 16))] [])]) (by kernel_rfl)|(conv=>lhs;cbv;try simp only[Kw]))
 simp only[↓reduceIte,go_sem]
 obtain⟨I,hI⟩:=kg (α:=Nat->ku->H->Prop) λm σ h'=>σ 0= .slice (some ⟨b,o,none⟩) n c/\σ 4= Jx JT m/\m<=n/\(∃y:Int,σ 1= .int .u64 y/\0<=y/\y<=18446744073709551615)/\jD (λi=>i=b) u h u h'/\Ud h' b N
 refine jE I (λm=>m) n (by rw[hI];exact⟨zJ,zJ,ak _,⟨x,zJ,hx0,Ub⟩,.refl _ _ _,hB⟩) ?_
 intro m σ h' hy
 rw[hI]at hy
 obtain⟨e0,e4,hm,⟨y,e1,hy0,hy1⟩,st,hB'⟩:=hy
 have hz:=hB'.1
 have hf:=hB'.2.1
 have fin: ∀(σ':ku) (h2:H) (m':Nat) (y':Int),σ' 0= .slice (some ⟨b,o,none⟩) n c->σ' 4= Jx JT m'->σ' 1= .int .u64 y'->0<=y'->y'<=18446744073709551615->m'<m->jD (λi=>i=b) u h u h2->Ud h2 b N-> ∃z,I z σ' h2/\z<m:=λσ' h2 m' y' q0 q4 q1 q2 q3 q5 q6 q7=>⟨m',by rw[hI];exact⟨q0,q4,zO,⟨y',q1,q2,q3⟩,q6,q7⟩,q5⟩
 by_cases h8:8<=m
 ·simp(disch:=omega) only[↓reduceIte,go_sem,e0,e1,e4,ahx,ahy,ahw,akE,hz,hf,acM]
  refine⟨λ_=> ?_,λhn=>absurd (show(8:Int)<=m by omega) hn⟩
  repeat (refine And.intro zO ?_)
  refine fin _ _ (m - 8) (y / 100000000) ?_ ?_ ?_ zO zO zO ?_ ?_
  ·simp [jI,e0]
  ·simp [jI];omega
  ·simp [jI]
  ·repeat (refine jD.setR ?_ (.inr rfl) (by rw[hu];exact aj _))
   exact st
  ·repeat (refine Ud.set ?_)
   exact hB'
 ·obtain⟨w,hw⟩: ∃w,IntKind.u32.wrap y=w:=⟨_,rfl⟩
  have hw0:0<=w/\w<=4294967295:=by
   have:IntKind.u32.wrap y=y % 4294967296:=rfl
   omega
  simp(disch:=omega) only[↓reduceIte,go_sem,e0,e1,e4,ae (show¬(8:Int)<=m by omega),hw,ahx,ahy,ahw,hz,hf,acM]
  repeat' (first|(refine And.intro zO ?_)|(refine And.intro (λ_=> ?_) (λ_=> ?_)))
  all_goals (refine hK _ ?_ ?_)
  all_goals (repeat (first|refine jD.setR ?_ (.inr rfl) (by rw[hu];exact aj _)|with_reducible refine Ud.set ?_|with_reducible refine Ud.setw ?_))
  all_goals first|exact st|exact hB'
end Go.Proofs.Z
