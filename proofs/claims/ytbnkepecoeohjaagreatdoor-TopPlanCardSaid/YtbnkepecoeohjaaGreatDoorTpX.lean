/- A part of the proof. -/
import Derived.Test.YtbnkepecoeohjaaGreatDoorTeH
import Derived.Test.YtbnkepecoeohjaaGreatDoorTq6
import Derived.Test.YtbnkepecoeohjaaGreatDoorEvF
import Derived.Test.YtbnkepecoeohjaaGreatDoorTpW
set_option linter.all false
set_option maxRecDepth 100000
set_option maxHeartbeats 4000000
namespace Go.Ev
open Go
theorem UE {G:mG} {g:FuncId} {cap:List Value} {d:Option Nat} {st:uw} {r:List St} {K:lm->H->Prop} {KP:List PanicEntry->H->Prop} {vs:List Value} {σ:lm} {h:H}
  (hc:G g (vs++cap) h (λv h'=>nS st σ h h'/\mf G r K KP (qU σ d v) h') KP):sP G .callv d st r K KP (.func (.func g) #[] cap.toArray::vs) σ h:=by
 simpa [sP,rT]using hc
end Go.Ev
namespace Edict
instance (s:pW) (w:Int):Decidable (rA s w):=inferInstanceAs (Decidable (0<=s.2/\(s.1=true->s.2<w)))
def Nu(pr:pW->Bool)(l:List pW):Int:=if l.any pr=true then(l.findIdx pr:Nat)else -1
end Edict
namespace Go.Proofs.Z
open Go Go.Ev Edict
variable {vs:List Value} {h:H} {K:Value->H->Prop} {KP:List PanicEntry->H->Prop}
def FL(vs:List Value)(h:H)(K:Value->H->Prop):Prop:= ∃(u:U) (s:pW) (w:Int),vs=[.agg #[.bool s.1,.int .i64 s.2],.int .i64 w]/\ ∀u' h',kG S0 u h u' h'->K (.bool (decide (rA s w))) h'
theorem Br(hC:FL vs h K):ma Tryz.prog 45 vs h K KP:=by
 obtain⟨u,⟨b,n⟩,w,rfl,hK⟩:=hC
 refine kP 23 [(none,(.t 4))] (G:=(λ_ _ _ _ _=>False)) (λ_ _ _ _ _ h=>h.elim) Tryz.func45 (by kernel_rfl) (by conv=>lhs;cbv;try simp only[mF]) ?_
 simp only at hK ⊢
 have e: ∀x:Bool,(x=decide (rA (b,n) w))->K (.bool x) (h.push (.cells #[.bool b,.int .i64 n] 32)):=λx hx=>by rw[hx];exact hK _ _ (by repeat (first|exact kG.refl _ _ _|assumption|apply kG.pZ))
 by_cases h0:0<=n
 ·cases b with
  |false=>
   simp(disch:=first|omega|simp only[zz];try omega;done) only[↓reduceIte,go_sem,af h0]
   exact e _ (by simp [rA,h0])
  |true=>
   by_cases h1:n<w
   ·simp(disch:=first|omega|simp only[zz];try omega;done) only[↓reduceIte,go_sem,af h0,af h1]
    exact e _ (by simp [rA,h0,h1])
   ·simp(disch:=first|omega|simp only[zz];try omega;done) only[↓reduceIte,go_sem,af h0,au h1]
    exact e _ (by simp only[rA];simp;omega)
 ·simp(disch:=first|omega|simp only[zz];try omega;done) only[↓reduceIte,go_sem,au h0]
  exact e _ (by simp [rA,h0])
def aey(vs:List Value)(h:H)(K:Value->H->Prop):Prop:= ∃(u:U) (s:pW),vs=[.agg #[.bool s.1,.int .i64 s.2]]/\ ∀u' h',kG S0 u h u' h'->K (.bool (decide (s.2<0))) h'
theorem abK(hC:aey vs h K):ma Tryz.prog 76 vs h K KP:=by
 obtain⟨u,s,rfl,hK⟩:=hC
 refine kP 7 [(none,(.t 2))] (G:=(λ_ _ _ _ _=>False)) (λ_ _ _ _ _ h=>h.elim) Tryz.func76 (by kernel_rfl) (by conv=>lhs;cbv;try simp only[mF]) ?_
 simp(disch:=first|omega|simp only[zz];try omega;done) only[↓reduceIte,go_sem]
 exact hK _ _ (by repeat (first|exact kG.refl _ _ _|assumption|apply kG.pZ))
def QS(vs:List Value)(h:H)(K:Value->H->Prop):Prop:= ∃(u:U) (s:pW) (wb:Nat) (w:Int),vs=[.agg #[.bool s.1,.int .i64 s.2],.pointer (some ⟨wb,0,none⟩)]/\kV u h wb [.int .i64 w]/\ ∀u' h',kG S0 u h u' h'->K (.bool (!decide (rA s w))) h'
def UF:mG:=λf vs h K _=>f=45/\FL vs h K
theorem JA:nz Tryz.prog UF:=qd Br
theorem QT(hC:QS vs h K):ma Tryz.prog 44 vs h K KP:=by
 obtain⟨u,s,wb,w,rfl,W,hK⟩:=hC
 refine kP 15 [(none,(.t 3))] JA Tryz.func44 (by kernel_rfl) (by conv=>lhs;cbv;try simp only[mF]) ?_
 obtain⟨h1,u1,hh1,zh1,p1,A1⟩:=kL u h [.bool s.1,.int .i64 s.2] 32
 have W1:=W.sZ p1
 have W11:=W1.1
 have A11:=A1.1
 simp(disch:=first|omega|simp only[zz];try omega;done) only[↓reduceIte,go_sem,<-hh1,A1.at,A1.2.1,W1.at,W1.2.1]
 refine kD ⟨rfl,u1,s,w,rfl,λu2 h2 s2=>⟨kY,?_⟩⟩
 simp(disch:=first|omega|simp only[zz];try omega;done) only[↓reduceIte,go_sem,Vs]
 exact hK _ _ (p1.tZ s2)
def WK(vs:List Value)(h:H)(K:Value->H->Prop):Prop:= ∃(u:U) (t s:pW) (sb:Nat),vs=[.agg #[.bool t.1,.int .i64 t.2],.pointer (some ⟨sb,0,none⟩)]/\kV u h sb [.bool s.1,.int .i64 s.2]/\ ∀u' h',kG S0 u h u' h'->K (.bool (t.1 && decide (t.2=s.2))) h'
theorem UG(hC:WK vs h K):ma Tryz.prog 48 vs h K KP:=by
 obtain⟨u,⟨b,n⟩,s,sb,rfl,B,hK⟩:=hC
 refine kP 15 [(none,(.t 3))] (G:=(λ_ _ _ _ _=>False)) (λ_ _ _ _ _ h=>h.elim) Tryz.func48 (by kernel_rfl) (by conv=>lhs;cbv;try simp only[mF]) ?_
 simp only at hK ⊢
 obtain⟨h1,u1,hh1,zh1,p1,A1⟩:=kL u h [.bool b,.int .i64 n] 32
 have B1:=B.sZ p1
 have B11:=B1.1
 have A11:=A1.1
 have hK:=hK _ _ p1
 cases b with
 |false=>
  simp(disch:=first|omega|simp only[zz];try omega;done) only[↓reduceIte,go_sem,<-hh1,A1.at,A1.2.1,B1.at]
  exact hK
 |true=>
  by_cases h1:n=s.2
  ·rw[fu,decide_eq_true h1]at hK
   simp(disch:=first|omega|simp only[zz];try omega;done) only[↓reduceIte,go_sem,<-hh1,A1.at,A1.2.1,B1.at,B1.2.1,af h1]
   exact hK
  ·rw[fu,decide_eq_false h1]at hK
   simp(disch:=first|omega|simp only[zz];try omega;done) only[↓reduceIte,go_sem,<-hh1,A1.at,A1.2.1,B1.at,B1.2.1,au h1]
   exact hK
def ahz:mG:=λf vs h K _=>(f=76/\aey vs h K)\/(f=44/\QS vs h K)\/(f=48/\WK vs h K)
theorem adW:nz Tryz.prog ahz:=mK abK (mK QT (qd UG))
def abL(u:U)(h:H)(g:FuncId)(cap:List Value)(pr:pW->Bool):Prop:= ∀u' h' (s:pW) (K':Value->H->Prop) (KP':List PanicEntry->H->Prop),kG S0 u h u' h'->(∀u'' h'',kG S0 u' h' u'' h''->K' (.bool (pr s)) h'')->ahz g (.agg #[.bool s.1,.int .i64 s.2]::cap) h' K' KP'
theorem abM(u:U)(h:H):abL u h 76 [] (λs=>decide (s.2<0)):=λu' h' s K' KP' st hK=> .inl ⟨rfl,u',s,rfl,hK⟩
theorem QU{u:U}{h:H}{wb:Nat}{w:Int}(W:kV u h wb [.int .i64 w]):abL u h 44 [.pointer (some ⟨wb,0,none⟩)] (λs=> !decide (rA s w)):=λu' h' s K' KP' st hK=> .inr (.inl ⟨rfl,u',s,wb,w,rfl,W.sZ st,hK⟩)
theorem YF{u:U}{h:H}{sb:Nat}{s:pW}(B:kV u h sb [.bool s.1,.int .i64 s.2]):abL u h 48 [.pointer (some ⟨sb,0,none⟩)] (λt=>t.1 && decide (t.2=s.2)):=λu' h' t K' KP' st hK=> .inr (.inr ⟨rfl,u',t,s,sb,rfl,B.sZ st,hK⟩)
def abN(vs:List Value)(h:H)(K:Value->H->Prop):Prop:= ∃(u:U) (v:Value) (l:List pW) (g:FuncId) (cap:List Value) (pr:pW->Bool),vs=[v,.func (.func g) #[] cap.toArray]/\kM u h v l/\l.length<=1000000/\abL u h g cap pr/\ ∀u' h',kG S0 u h u' h'->K (.int .i64 (Nu pr l)) h'
theorem Il(hC:abN vs h K):ma Tryz.prog 47 vs h K KP:=by
 obtain⟨u,v,l,g,cap,pr,rfl,iv,hl,hA,hK⟩:=hC
 refine kP 66483 [(none,(.t 4))] adW Tryz.func47 (by kernel_rfl) (by conv=>lhs;cbv;try simp only[mF]) ?_
 obtain⟨va,vc,rfl,-,-⟩:=iv.sl
 obtain⟨fv,hfv⟩:=kJ (α:=Value) (.func (.func g) #[] cap.toArray)
 rw[<-hfv]
 simp(disch:=first|omega|simp only[zz];try omega;done) only[↓reduceIte,go_sem]
 obtain⟨I,hI⟩:=kJ (α:=Nat->lm->H->Prop) λk σ h'=> ∃(u':U),σ 0= .slice va l.length vc/\σ 1=fv/\σ 7= .int .i64 (l.length:Nat)/\σ 8= .int .i64 k/\k<=l.length/\kG S0 u h u' h'/\ ∀s∈l.take k,pr s=false
 refine kH I (λj=>l.length - j) 0 (by rw[hI];exact⟨u,by simp [kF],by simp [kF],by simp [kF],by simp [kF],by omega,.refl _ _ _,λs q=>by simp at q⟩) ?_
 intro k σ h' hi
 rw[hI]at hi
 obtain⟨u',e0,e1,e7,e8,hk,st,hno⟩:=hi
 by_cases hlt:k<l.length
 case neg=>
  rw[aK (by omega)]at hno
  have hn:Nu pr l= -1:=by unfold Nu;rw[ah];intro q;obtain⟨s,q1,q2⟩:=fK.1 q;rw[hno s q1]at q2;cases q2
  rw[hn]at hK
  simp(disch:=first|omega|simp only[zz];try omega;done) only[↓reduceIte,go_sem,e7,e8,au (show¬(k:Int)<(l.length:Nat) by omega)]
  exact hK _ _ st
 obtain⟨y,hy⟩:=uu hlt
 obtain⟨pb,po,rfl,hpb,hpu,hpz,hpr⟩:=(iv.mono st.ge).row k y hy
 rw[vY]at hpr
 simp only[Iw,qX,aG,aP]at hpr hpu hpz
 obtain⟨p0,p1⟩:=hpr
 simp(disch:=first|omega|simp only[zz];try omega;done) only[↓reduceIte,go_sem,e0,e1,e7,e8,af (show(k:Int)<(l.length:Nat) by omega),af (show(0:Int)<=(k:Int) by omega),p0,p1]
 rw[hfv]
 refine UE (hA u' h' y _ _ st λu2 h2 s2=>⟨kY,?_⟩)
 have st2:=st.tZ s2
 cases hp:pr y with
 |true=>
  have hn:Nu pr l=(k:Nat):=by
   unfold Nu
   rw[ay (fK.2 ⟨y,aI hy,hp⟩)]
   have h1:l.findIdx pr=k:=by
    rw[List.findIdx_eq hlt]
    refine⟨by obtain⟨q1,q2⟩:=aJ.1 hy;rw[q2];exact hp,λj hj=> ?_⟩
    refine hno _ ?_
    exact aI (i:=j) (by rw[bV,ay hj,aL (by omega)])
   rw[h1]
  rw[hn]at hK
  simp(disch:=first|omega|simp only[zz];try omega;done) only[↓reduceIte,go_sem,Vs]
  exact hK _ _ st2
 |false=>
  simp(disch:=first|omega|simp only[zz];try omega;done) only[↓reduceIte,go_sem,e8]
  refine⟨k+1,?_,by omega⟩
  rw[hI]
  refine⟨u2,by simp [kF,e0],by simp [kF,e1],by simp [kF,e7],by simp [kF],hlt,st2,λs q=> ?_⟩
  rw[aS,hy]at q
  rcases bG.1 q with q|q
  ·exact hno s q
  ·have q:s=y:=by simpa using q
   rw[q];exact hp
def Bt(vs:List Value)(h:H)(K:Value->H->Prop):Prop:= ∃(u:U) (v:Value) (l:List pW) (g:FuncId) (cap:List Value) (pr:pW->Bool),vs=[v,.func (.func g) #[] cap.toArray]/\kM u h v l/\l.length<=1000000/\abL u h g cap pr/\ ∀u' h',kG S0 u h u' h'->K (.bool (l.any pr)) h'
def Nv:mG:=λf vs h K _=>f=47/\abN vs h K
theorem Fe:nz Tryz.prog Nv:=qd Il
theorem Az(hC:Bt vs h K):ma Tryz.prog 43 vs h K KP:=by
 obtain⟨u,v,l,g,cap,pr,rfl,iv,hl,hA,hK⟩:=hC
 refine kP 19 [(none,(.t 4))] Fe Tryz.func43 (by kernel_rfl) (by conv=>lhs;cbv;try simp only[mF]) ?_
 simp(disch:=first|omega|simp only[zz];try omega;done) only[↓reduceIte,go_sem]
 refine kD ⟨rfl,u,v,l,g,cap,pr,rfl,iv,hl,hA,λu2 h2 s2=>⟨kY,?_⟩⟩
 have hK:=hK _ _ s2
 unfold Nu
 by_cases ha:l.any pr=true
 ·rw[ay ha]
  rw[ha]at hK
  simp(disch:=first|omega|simp only[zz];try omega;done) only[↓reduceIte,go_sem,af (show(0:Int)<=(l.findIdx pr:Nat) by omega)]
  exact hK
 ·rw[ah ha]
  rw[iM]at ha
  rw[ha]at hK
  simp(disch:=first|omega|simp only[zz];try omega;done) only[↓reduceIte,go_sem,Vs]
  exact hK
end Go.Proofs.Z
namespace Go.Proofs.Z
open Go Go.Ev Edict
variable {vs:List Value} {h:H} {K:Value->H->Prop} {KP:List PanicEntry->H->Prop}
def QQ(vs:List Value)(h:H)(K:Value->H->Prop):Prop:= ∃(u:U) (p:pK) (v:Value),vs=[.agg #[.int .i64 p.1,v]]/\kM u h v p.2/\sN p/\ ∀u' h',kG S0 u h u' h'->K (.bool true) h'
def UB:mG:=λf vs h K _=>f=43/\Bt vs h K
theorem Jz:nz Tryz.prog UB:=qd Az
theorem QR(hC:QQ vs h K):ma Tryz.prog 42 vs h K KP:=by
 obtain⟨u,p,v,rfl,iv,⟨hp0,hp8,hps⟩,hK⟩:=hC
 refine kP 2055 [(none,(.t 2))] Jz Tryz.func42 (by kernel_rfl) (by conv=>lhs;cbv;try simp only[mF]) ?_
 obtain⟨va,vc,rfl,-,-⟩:=iv.sl
 obtain⟨h1,u1,hh1,zh1,p1,A1⟩:=kL u h [.int .i64 p.1,.slice va p.2.length vc] 59
 have A11:=A1.1
 simp(disch:=first|omega|simp only[zz];try omega;done) only[↓reduceIte,go_sem,<-hh1,A1.at,A1.2.1,au (show¬p.1<0 by omega),au (show¬(8:Int)<p.2.length by omega)]
 refine kD ⟨rfl,u1,_,p.2,_,[],_,rfl,iv.mono p1.ge,by omega,abM u1 h1,λu2 h2 s2=>⟨kY,?_⟩⟩
 have hno:(p.2.any λs=>decide (s.2<0))=false:=by
  rw[gq]
  intro q
  obtain⟨s,q1,q2⟩:=fK.1 q
  have:=hps s q1
  simp at q2
  omega
 rw[hno]
 simp(disch:=first|omega|simp only[zz];try omega;done) only[↓reduceIte,go_sem,Vs]
 exact hK _ _ (p1.tZ s2)
def WI(vs:List Value)(h:H)(K:Value->H->Prop):Prop:= ∃(u:U) (r:qW) (v0 v1 v2 v3 v4:Value),vs=[.agg (Ff r v0 v1 v2 v3 v4).toArray]/\Zn u h r v0 v1 v2 v3 v4/\r.2.1.length+r.2.2.1.length+r.2.2.2.1.length<=16/\ ∀u' h',kG S0 u h u' h'->K (.int .i64 ((r.2.1.length+r.2.2.1.length+r.2.2.2.1.length:Nat):Int)) h'
theorem UC(hC:WI vs h K):ma Tryz.prog 41 vs h K KP:=by
 obtain⟨u,r,v0,v1,v2,v3,v4,rfl,rv,hl,hK⟩:=hC
 refine kP 7 [(none,(.t 2))] (G:=(λ_ _ _ _ _=>False)) (λ_ _ _ _ _ h=>h.elim) Tryz.func41 (by kernel_rfl) (by conv=>lhs;cbv;try simp only[mF]) ?_
 obtain⟨a0,b0,rfl,-,-⟩:=rv.i0.sl
 obtain⟨a1,b1,rfl,-,-⟩:=rv.i1.sl
 obtain⟨a2,b2,rfl,-,-⟩:=rv.i2.sl
 obtain⟨a3,b3,rfl,-,-⟩:=rv.i3.sl
 obtain⟨a4,b4,rfl,-,-⟩:=rv.i4.sl
 have hK:=hK _ _ (kG.qZ S0 u h (Ff r (.slice a0 r.1.2.length b0) (.slice a1 r.2.1.length b1) (.slice a2 r.2.2.1.length b2) (.slice a3 r.2.2.2.1.length b3) (.slice a4 r.2.2.2.2.1.length b4)).toArray 63)
 simp only[Ff]at hK ⊢
 simp(disch:=first|omega|simp only[zz];try omega;done) only[↓reduceIte,go_sem]
 simpa using hK
def aex(vs:List Value)(h:H)(K:Value->H->Prop):Prop:= ∃(u:U) (r:qW) (w:Int) (v0 v1 v2 v3 v4:Value),vs=[.agg (Ff r v0 v1 v2 v3 v4).toArray]/\Zn u h r v0 v1 v2 v3 v4/\ahB r w/\ ∀u' h',kG S0 u h u' h'->K (.bool true) h'
def WJ:mG:=λf vs h K _=>(f=41/\WI vs h K)\/(f=42/\QQ vs h K)\/(f=43/\Bt vs h K)\/(f=45/\FL vs h K)
theorem UD:nz Tryz.prog WJ:=mK UC (mK QR (mK Az (qd Br)))
theorem af4 {wb:Nat} {u0:U} {h0:H} {u:U} {h:H} {w w':Int} {σ0:lm} {Q:qm} {l:List pW} {la:Option Addr} {lc:Nat} (W:kV u h wb [.int .i64 w]) (hwb:h0.size<=wb) (st0:kG S0 u0 h0 u h) (il:kM u h (.slice la l.length lc) l) (hl:l.length<=1000000) (hw:vg w l=some w') (hb:0<=w/\w<=1000000)
  (f3:σ0 3= .pointer (some ⟨wb,0,none⟩)) (f26:σ0 26= .slice la l.length lc) (f27:σ0 27= .int .i64 (l.length:Nat)) (f28:σ0 28= .int .i64 0)
  (hQ: ∀σ' u' h',(∀i,i<28->i≠7->σ' i=σ0 i)->kV u' h' wb [.int .i64 w']->kG S0 u0 h0 u' h'->kG (λb=>b=wb) u h u' h'->Q (.exit 2) σ' h'):wpS WJ (.loop acl) Q σ0 h:=by
 obtain⟨I,hI⟩:=kJ (α:=Nat->lm->H->Prop) λk σ h'=> ∃(u':U) (x:Int),σ 28= .int .i64 k/\(∀i,i<28->i≠7->σ i=σ0 i)/\k<=l.length/\vg x (l.drop k)=some w'/\0<=x/\x<=1000000+k/\kV u' h' wb [.int .i64 x]/\kG S0 u0 h0 u' h'/\kG (λb=>b=wb) u h u' h'
 refine kH I (λj=>l.length - j) 0 (by rw[hI];exact⟨u,w,by rw[f28];rfl,λi _ _=>rfl,by omega,by simpa using hw,hb.1,by omega,W,st0,.refl _ _ _⟩) ?_
 intro k σ h' hi
 rw[hI]at hi
 obtain⟨u',x,e28,eσ,hk,hx,Et,Df,B,st,g⟩:=hi
 have e3:=(eσ 3 (by omega) (by omega)).trans f3
 have e26:=(eσ 26 (by omega) (by omega)).trans f26
 have e27:=(eσ 27 (by omega) (by omega)).trans f27
 by_cases hlt:k<l.length
 case neg=>
  rw[dJ (by omega)]at hx
  cases hx
  simp(disch:=first|omega|simp only[zz];try omega;done) only[↓reduceIte,go_sem,acl,e27,e28,au (show¬(k:Int)<(l.length:Nat) by omega)]
  exact hQ _ _ _ (λi a b=>by simp only[kF];rw[ah (by omega)];exact eσ i (by omega) b) B st g
 obtain⟨y,hy⟩:=uu hlt
 have hd:l.drop k=y::l.drop (k+1):=by obtain⟨q1,q2⟩:=aJ.1 hy;rw[bK hlt,q2]
 rw[hd,vg]at hx
 split at hx
 ·cases hx
 rename_i hn
 obtain⟨pb,po,rfl,hpb,hpu,hpz,hpr⟩:=(il.mono g.ge).row k y hy
 obtain⟨yb,yn⟩:=y
 rw[vY]at hpr
 simp only[Iw,qX,aG,aP]at hpr hpu hpz
 simp only at hn hx
 obtain⟨p0,p1⟩:=hpr
 obtain⟨h5',h6,u6,hh5,hh6,B5,B6,s6,hz6⟩:=kZ u' h' [.bool false,.int .i64 0] [.bool yb,.int .i64 yn] 32 rfl
 have B51:=B5.1
 have B61:=B6.1
 obtain⟨bb,hbb⟩:=kJ h'.size
 rw[<-hbb]at B5 B51 B6 B61 hh6
 have W6:=B.sZ s6
 have W61:=W6.1
 have st6:=st.tZ s6
 have fin: ∀(σ'':lm) (u9:U) (h9:H) (x9:Int),σ'' 28= .int .i64 ((k:Int)+1)->(∀i,i<28->i≠7->σ'' i=σ i)->vg x9 (l.drop (k+1))=some w'->0<=x9->x9<=1000000+((k+1:Nat):Int)->kV u9 h9 wb [.int .i64 x9]->kG S0 u0 h0 u9 h9->kG (λb=>b=wb) u' h' u9 h9-> ∃j,I j σ'' h9/\l.length - j<l.length - k:=by
  intro σ'' u9 h9 x9 g28 gσ a1 a2 a3 a4 a5 a6
  refine⟨k+1,?_,by omega⟩
  rw[hI]
  exact⟨u9,x9,by rw[g28];simp,λi a b=>(gσ i a b).trans (eσ i a b),hlt,a1,a2,a3,a4,a5,g.trans a6 λ_ _ q=>q⟩
 cases yb with
 |false=>
  rw[ah (λq=>by cases q.1)]at hx
  simp(disch:=first|omega|simp only[zz];try omega;done) only[↓reduceIte,go_sem,acl,e3,e26,e27,e28,af (show(k:Int)<(l.length:Nat) by omega),p0,p1,<-hbb,<-hh5,<-hh6,B5.2.1,B5.2.2.1,B6.at,B6.2.1,W6.at]
  exact fin _ u6 _ x (by simp [kF]) (λi a b=>by simp only[kF];repeat rw[ah (by omega)]) hx Et (by omega) W6 st6 (s6.mono λ_ _ q=>q.elim)
 |true=>
  have hle: ¬x<yn:=λq=>hn ⟨rfl,q⟩
  by_cases he:yn=x
  ·rw[ay ⟨rfl,he⟩]at hx
   subst he
   obtain⟨h7,hh7,st7,W7,g7,W71⟩:=tT (i:=0) (.int .i64 (yn+1)) st6 W6 hwb (by simp)
   simp only[bP]at W7
   simp(disch:=first|omega|simp only[zz];try omega;done) only[↓reduceIte,go_sem,acl,e3,e26,e27,e28,af (show(k:Int)<(l.length:Nat) by omega),p0,p1,<-hbb,<-hh5,<-hh6,B5.2.1,B5.2.2.1,B6.at,B6.2.1,W6.at,W6.2.1,au (show¬yn<yn by omega),W6.2.2.1,<-hh7]
   exact fin _ u6 _ (yn+1) (by simp [kF]) (λi a b=>by simp only[kF];repeat rw[ah (by omega)]) hx (by omega) (by omega) W7 st7 ((s6.mono λ_ _ q=>q.elim).trans (by rw[hh7];exact kG.set (S:=λb=>b=wb) u6 h6 _ rfl (by rw[W6.2.2.2.1];exact az _)) λ_ _ q=>q)
  ·rw[ah (λq=>he q.2)]at hx
   simp(disch:=first|omega|simp only[zz];try omega;done) only[↓reduceIte,go_sem,acl,e3,e26,e27,e28,af (show(k:Int)<(l.length:Nat) by omega),p0,p1,<-hbb,<-hh5,<-hh6,B5.2.1,B5.2.2.1,B6.at,B6.2.1,W6.at,W6.2.1,au hle,au he]
   exact fin _ u6 _ x (by simp [kF]) (λi a b=>by simp only[kF];repeat rw[ah (by omega)]) hx Et (by omega) W6 st6 (s6.mono λ_ _ q=>q.elim)
theorem abJ(hC:aex vs h K):ma Tryz.prog 15 vs h K KP:=by
 obtain⟨u,r,w,v0,v1,v2,v3,v4,rfl,rv,⟨hle,hwp,hw0,hpos,htst,hneg⟩,hK⟩:=hC
 refine kP 633825371540457334594543241903 [(none,(.t 2))] UD Tryz.func15 (by kernel_rfl) (by conv=>lhs;cbv;try simp only[mF]) ?_
 obtain⟨i0,i1,i2,i3,i4⟩:=id rv
 obtain⟨a0,b0,rfl,-,-⟩:=i0.sl
 obtain⟨a1,b1,rfl,-,-⟩:=i1.sl
 obtain⟨a2,b2,rfl,-,-⟩:=i2.sl
 obtain⟨a3,b3,rfl,-,-⟩:=i3.sl
 obtain⟨a4,b4,rfl,-,-⟩:=i4.sl
 obtain⟨h1,u1,hh1,zh1,p1,C1⟩:=kL u h (Ff r (.slice a0 r.1.2.length b0) (.slice a1 r.2.1.length b1) (.slice a2 r.2.2.1.length b2) (.slice a3 r.2.2.2.1.length b3) (.slice a4 r.2.2.2.2.1.length b4)) 63
 obtain⟨cb,hcb⟩:=kJ h.size
 rw[<-hcb]at C1
 simp only[Ff]at hh1 C1 ⊢
 have C11:=C1.1
 simp(disch:=first|omega|simp only[zz];try omega;done) only[↓reduceIte,go_sem,<-hh1,<-hcb,C1.at,C1.2.1]
 refine kD (.inl ⟨rfl,u1,r,_,_,_,_,_,rfl,rv.mono p1.ge,hle,λu2 h2 s2=>⟨kY,?_⟩⟩)
 have C2:=C1.sZ s2
 obtain⟨h3',u3',hh3',zh3',p3,W3'⟩:=kL u2 h2 [.int .i64 0] 3
 obtain⟨wb,hwb⟩:=kJ h2.size
 rw[<-hwb]at W3'
 have st2:=p1.tZ s2
 have hwb0:h.size<=wb:=by have:=st2.ge.sz;omega
 obtain⟨h3,hh3,st3,W3,g3,W31⟩:=tT (i:=0) (.int .i64 0) (st2.tZ p3) W3' hwb0 (by simp)
 simp only[bP]at W3
 have C3:kV u3' h3 cb [.int .i64 r.1.1,.slice a0 r.1.2.length b0,.slice a1 r.2.1.length b1,.slice a2 r.2.2.1.length b2,.slice a3 r.2.2.2.1.length b3,.slice a4 r.2.2.2.2.1.length b4,.int .i64 r.2.2.2.2.2]:=by
  rw[hh3]
  exact(C2.sZ p3).step (kG.set (S:=λx=>x=wb) u3' _ _ rfl (by rw[W3'.2.2.2.1];exact az _)) (λe=>by have:=C2.1;omega)
 have C31:=C3.1
 have W3'1:=W3'.1
 simp(disch:=first|omega|simp only[zz];try omega;done) only[↓reduceIte,go_sem,au (show¬(16:Int)<((r.2.1.length+r.2.2.1.length+r.2.2.2.1.length:Nat):Int) by omega),<-hwb,<-hh3',W3'.2.1,W3'.2.2.1,<-hh3,C3.at,C3.2.1]
 have hcw:cb≠wb:=by have:=C2.1;omega
 -- the patterns
 obtain⟨I,hI⟩:=kJ (α:=Nat->lm->H->Prop) λk σ h'=> ∃(u':U) (x:Int),σ 1= .pointer (some ⟨cb,0,none⟩)/\σ 3= .pointer (some ⟨wb,0,none⟩)/\σ 16= .slice a1 r.2.1.length b1/\σ 17= .int .i64 (r.2.1.length:Nat)/\σ 18= .int .i64 k/\k<=r.2.1.length/\Su x (r.2.1.drop k)=some w/\0<=x/\x<=1000000/\kV u' h' wb [.int .i64 x]/\kG S0 u h u' h'/\kV u' h' cb [.int .i64 r.1.1,.slice a0 r.1.2.length b0,.slice a1 r.2.1.length b1,.slice a2 r.2.2.1.length b2,.slice a3 r.2.2.2.1.length b3,.slice a4 r.2.2.2.2.1.length b4,.int .i64 r.2.2.2.2.2]
 refine kH I (λj=>r.2.1.length - j) 0 (by rw[hI];exact⟨u3',0,by simp [kF],by simp [kF],by simp [kF],by simp [kF],by simp [kF],by omega,by simpa using hwp,by omega,by omega,W3,st3,C3⟩) ?_
 clear hh1 hh3 hh3' C1 C2 C3 W3 W3' W3'1 W31 C31 C11 st3 g3 p3
 intro k σ h' hi
 rw[hI]at hi
 obtain⟨u',x,e1,e3,e16,e17,e18,hk,hx,Et,Df,W,st,C⟩:=hi
 have W1:=W.1
 have C1:=C.1
 by_cases hlt:k<r.2.1.length
 case neg=>
  rw[dJ (by omega)]at hx
  cases hx
  simp(disch:=first|omega|simp only[zz];try omega;done) only[↓reduceIte,go_sem,e1,e3,e17,e18,au (show¬(k:Int)<(r.2.1.length:Nat) by omega),W.at,W.2.1,au (show¬(16:Int)<w by omega),C.at,C.2.1]
  -- the negated ones
  obtain⟨J,hJ⟩:=kJ (α:=Nat->lm->H->Prop) λk σ h'=> ∃(u':U),σ 1= .pointer (some ⟨cb,0,none⟩)/\σ 3= .pointer (some ⟨wb,0,none⟩)/\σ 55= .slice a3 r.2.2.2.1.length b3/\σ 56= .int .i64 (r.2.2.2.1.length:Nat)/\σ 57= .int .i64 k/\k<=r.2.2.2.1.length/\kV u' h' wb [.int .i64 w]/\kG S0 u h u' h'/\kV u' h' cb [.int .i64 r.1.1,.slice a0 r.1.2.length b0,.slice a1 r.2.1.length b1,.slice a2 r.2.2.1.length b2,.slice a3 r.2.2.2.1.length b3,.slice a4 r.2.2.2.2.1.length b4,.int .i64 r.2.2.2.2.2]
  refine kH J (λj=>r.2.2.2.1.length - j) 0 (by rw[hJ];exact⟨u',by simp [kF,e1],by simp [kF,e3],by simp [kF],by simp [kF],by simp [kF],by omega,W,st,C⟩) ?_
  clear e1 e3 e16 e17 e18 hk hlt W st C W1 C1 u' h' hI
  intro k σ h' hi
  rw[hJ]at hi
  obtain⟨u',e1,e3,e55,e56,e57,hk,W,st,C⟩:=hi
  have W1:=W.1
  have C1:=C.1
  by_cases hlt:k<r.2.2.2.1.length
  case neg=>
   simp(disch:=first|omega|simp only[zz];try omega;done) only[↓reduceIte,go_sem,e1,e56,e57,au (show¬(k:Int)<(r.2.2.2.1.length:Nat) by omega),C.at,C.2.1]
   -- the tests
   obtain⟨M,hM⟩:=kJ (α:=Nat->lm->H->Prop) λk σ h'=> ∃(u':U),σ 3= .pointer (some ⟨wb,0,none⟩)/\σ 72= .slice a2 r.2.2.1.length b2/\σ 73= .int .i64 (r.2.2.1.length:Nat)/\σ 74= .int .i64 k/\k<=r.2.2.1.length/\kV u' h' wb [.int .i64 w]/\kG S0 u h u' h'
   refine kH M (λj=>r.2.2.1.length - j) 0 (by rw[hM];exact⟨u',by simp [kF,e3],by simp [kF],by simp [kF],by simp [kF],by omega,W,st⟩) ?_
   clear e1 e3 e55 e56 e57 hk hlt W st C W1 C1 u' h' hJ
   intro k σ h' hi
   rw[hM]at hi
   obtain⟨u',e3,e72,e73,e74,hk,W,st⟩:=hi
   have W1:=W.1
   by_cases hlt:k<r.2.2.1.length
   case neg=>
    simp(disch:=first|omega|simp only[zz];try omega;done) only[↓reduceIte,go_sem,e73,e74,au (show¬(k:Int)<(r.2.2.1.length:Nat) by omega)]
    exact hK _ _ st
   obtain⟨y,hy⟩: ∃y,r.2.2.1[k]? =some y:=⟨r.2.2.1[k],by simp [hlt]⟩
   obtain⟨y1,y6,yl,yr⟩:=htst y (aI hy)
   obtain⟨pb,po,rfl,hpb,hpu,hpz,hpr⟩:=(i2.mono st.ge).row k y hy
   rw[FO]at hpr
   simp only[UL,Vi,aG,aP]at hpr hpu hpz
   obtain⟨q0,q1,q2,q3,q4⟩:=hpr
   obtain⟨h5',h6,u6,hh5,hh6,B5,B6,s6,hz6⟩:=kZ u' h' [.int .i64 0,.bool false,.int .i64 0,.bool false,.int .i64 0] (zt y) 34 rfl
   simp only[zt]at hh6 B6
   have B51:=B5.1
   have B61:=B6.1
   obtain⟨bb,hbb⟩:=kJ h'.size
   rw[<-hbb]at B5 B51 B6 B61 hh6
   have W6:=W.sZ s6
   have W61:=W6.1
   have st6:=st.tZ s6
   simp(disch:=first|omega|simp only[zz];try omega;done) only[↓reduceIte,go_sem,e3,e72,e73,e74,af (show(k:Int)<(r.2.2.1.length:Nat) by omega),q0,q1,q2,q3,q4,<-hbb,<-hh5,<-hh6,B5.2.1,B5.2.2.1,B6.at,B6.2.1,W6.at,W6.2.1,au (show¬y.1<1 by omega),au (show¬(6:Int)<y.1 by omega)]
   refine kD (.inr (.inr (.inr ⟨rfl,u6,y.2.1,w,rfl,λu7 h7 s7=>⟨kY,?_⟩⟩)))
   have B7:=B6.sZ s7
   have W7:=W6.sZ s7
   have B71:=B7.1
   have W71:=W7.1
   rw[decide_eq_true yl]
   simp(disch:=first|omega|simp only[zz];try omega;done) only[↓reduceIte,go_sem,e3,B7.at,B7.2.1,W7.at,W7.2.1]
   refine kD (.inr (.inr (.inr ⟨rfl,u7,y.2.2,w,rfl,λu8 h8 s8=>⟨kY,?_⟩⟩)))
   rw[decide_eq_true yr]
   simp(disch:=first|omega|simp only[zz];try omega;done) only[↓reduceIte,go_sem,e74]
   refine⟨k+1,?_,by omega⟩
   rw[hM]
   exact⟨u8,by simp [kF,e3],by simp [kF,e72],by simp [kF,e73],by simp [kF],hlt,W7.sZ s8,(st6.tZ s7).tZ s8⟩
  obtain⟨y,hy⟩: ∃y,r.2.2.2.1[k]? =some y:=⟨r.2.2.2.1[k],by simp [hlt]⟩
  obtain⟨yw,yb⟩:=hneg y (aI hy)
  obtain⟨pb,po,rfl,hpb,hpu,hpz,hpr⟩:=(i3.mono st.ge).row k y hy
  rw[tV]at hpr
  obtain⟨yv,hpr,iyv⟩:=hpr
  obtain⟨ya,yc,rfl,-,-⟩:=iyv.sl
  simp only[Bu,qX,aG,aP]at hpr hpu hpz
  obtain⟨q0,q1⟩:=hpr
  obtain⟨h5',h6,u6,hh5,hh6,B5,B6,s6,hz6⟩:=kZ u' h' [.int .i64 0,.slice none 0 0] [.int .i64 y.1,.slice ya y.2.length yc] 59 rfl
  have B51:=B5.1
  have B61:=B6.1
  obtain⟨bb,hbb⟩:=kJ h'.size
  rw[<-hbb]at B5 B51 B6 B61 hh6
  have st6:=st.tZ s6
  simp(disch:=first|omega|simp only[zz];try omega;done) only[↓reduceIte,go_sem,e55,e56,e57,af (show(k:Int)<(r.2.2.2.1.length:Nat) by omega),q0,q1,<-hbb,<-hh5,<-hh6,B5.2.1,B5.2.2.1,B6.at,B6.2.1]
  refine kD (.inr (.inl ⟨rfl,u6,y,_,rfl,iyv.mono s6.ge,yw,λu7 h7 s7=>⟨kY,?_⟩⟩))
  have B7:=B6.sZ s7
  have W7:=(W.sZ s6).sZ s7
  have B71:=B7.1
  simp(disch:=first|omega|simp only[zz];try omega;done) only[↓reduceIte,go_sem,e3,B7.at,B7.2.1]
  refine kD (.inr (.inr (.inl ⟨rfl,u7,_,y.2,_,[.pointer (some ⟨wb,0,none⟩)],_,rfl,(iyv.mono s6.ge).mono s7.ge,by have:=yw.2.1;omega,QU W7,λu8 h8 s8=>⟨kY,?_⟩⟩)))
  have hno:(y.2.any λs=> !decide (rA s w))=false:=by
   rw[gq]
   intro q
   obtain⟨s,q1,q2⟩:=fK.1 q
   have:=yb s q1
   simp [this]at q2
  rw[hno]
  simp(disch:=first|omega|simp only[zz];try omega;done) only[↓reduceIte,go_sem,e57]
  refine⟨k+1,?_,by omega⟩
  rw[hJ]
  exact⟨u8,by simp [kF,e1],by simp [kF,e3],by simp [kF,e55],by simp [kF,e56],by simp [kF],hlt,W7.sZ s8,(st6.tZ s7).tZ s8,((C.sZ s6).sZ s7).sZ s8⟩
 obtain⟨y,hy⟩: ∃y,r.2.1[k]? =some y:=⟨r.2.1[k],by simp [hlt]⟩
 have yw:=hpos y (aI hy)
 have hd:r.2.1.drop k=y::r.2.1.drop (k+1):=by obtain⟨q1,q2⟩:=aJ.1 hy;rw[bK hlt,q2]
 rw[hd,Su]at hx
 split at hx
 case h_2=>cases hx
 rename_i x' hx'
 obtain⟨pb,po,rfl,hpb,hpu,hpz,hpr⟩:=(i1.mono st.ge).row k y hy
 rw[tV]at hpr
 obtain⟨yv,hpr,iyv⟩:=hpr
 obtain⟨ya,yc,rfl,-,-⟩:=iyv.sl
 simp only[Bu,qX,aG,aP]at hpr hpu hpz
 obtain⟨q0,q1⟩:=hpr
 obtain⟨h5',h6,u6,hh5,hh6,B5,B6,s6,hz6⟩:=kZ u' h' [.int .i64 0,.slice none 0 0] [.int .i64 y.1,.slice ya y.2.length yc] 59 rfl
 have B51:=B5.1
 have B61:=B6.1
 obtain⟨bb,hbb⟩:=kJ h'.size
 rw[<-hbb]at B5 B51 B6 B61 hh6
 have st6:=st.tZ s6
 simp(disch:=first|omega|simp only[zz];try omega;done) only[↓reduceIte,go_sem,e16,e17,e18,af (show(k:Int)<(r.2.1.length:Nat) by omega),q0,q1,<-hbb,<-hh5,<-hh6,B5.2.1,B5.2.2.1,B6.at,B6.2.1]
 refine kD (.inr (.inl ⟨rfl,u6,y,_,rfl,iyv.mono s6.ge,yw,λu7 h7 s7=>⟨kY,?_⟩⟩))
 have B7:=B6.sZ s7
 have W7:=(W.sZ s6).sZ s7
 have C7:=(C.sZ s6).sZ s7
 have B71:=B7.1
 have st7:=st6.tZ s7
 have zzl:=st7.ge.sz
 simp(disch:=first|omega|simp only[zz];try omega;done) only[↓reduceIte,go_sem,B7.at,B7.2.1]
 have hlen:=yw.2.1
 refine af4 (h0:=h) (u0:=u) W7 hwb0 st7 ((iyv.mono s6.ge).mono s7.ge) (by omega) hx' ⟨Et,Df⟩ (by simp [kF,e3]) (by simp [kF]) (by simp [kF]) (by simp [kF]) λσ8 u8 h8 hσ8 W8 st8 s8=> ?_
 have g18:σ8 18= .int .i64 k:=(hσ8 18 (by omega) (by omega)).trans (by simp [kF,e18])
 have gσ: ∀j,j<18->j≠5->j≠7->σ8 j=σ j:=λj q1 q2 q3=>by
  rw[hσ8 j (by omega) q3]
  simp only[kF]
  repeat rw[ah (by omega)]
 obtain⟨x0',x1'⟩:=yh hx'
 have hx16:x'<=1000000:=by
  have:=(Xn hx).1
  omega
 simp(disch:=first|omega|simp only[zz];try omega;done) only[↓reduceIte,go_sem,g18]
 refine⟨k+1,?_,by omega⟩
 rw[hI]
 refine⟨u8,x',?_,?_,?_,?_,by simp [kF],hlt,hx,by omega,hx16,W8,st8,C7.step s8 hcw⟩
 ·simp only[kF];repeat rw[ah (by omega)]
  exact(gσ 1 (by omega) (by omega) (by omega)).trans e1
 ·simp only[kF];repeat rw[ah (by omega)]
  exact(gσ 3 (by omega) (by omega) (by omega)).trans e3
 ·simp only[kF];repeat rw[ah (by omega)]
  exact(gσ 16 (by omega) (by omega) (by omega)).trans e16
 ·simp only[kF];repeat rw[ah (by omega)]
  exact(gσ 17 (by omega) (by omega) (by omega)).trans e17
end Go.Proofs.Z
namespace Go.Ev
open Go Rep Edict
variable {b:Nat} {cs:List Value} {h:H} {u:U} {l:List Value} {n k:Nat} {a:Option Addr} {c:Nat}
def ovr(o:Nat)(l cs:List Value):List Value:=cs.take o++l++cs.drop (o+l.length)
theorem WG(A Z T l:List Value)(h:l.length<=Z.length):ovr A.length l (A++(Z++T))=A++((l++Z.drop l.length)++T):=by
 unfold ovr
 rw[List.take_left,List.drop_append,List.drop_of_length_le (by omega),fP,bI,iW h]
 simp
theorem kV.setsAt{o:Nat}(k:kV u h b cs)(hl:o+l.length<=cs.length):kV u (kU h b o l) b (ovr o l cs):=by
 obtain⟨k1,k2,k3,k4,k5⟩:=k
 refine⟨by rw[mX];exact k1,by rw[lu,k2];unfold ovr;simp;omega,by rw[lw];exact k3,k4,λi v hv=> ?_⟩
 rw[yE _ _ _ _ _ (by omega)]
 unfold ovr at hv
 by_cases h1:i<o
 ·rw[ah (by omega)]
  rw[bB,bi (by rw[aT];omega),bV,ay h1]at hv
  exact k5 i v hv
 ·by_cases h2:i<o+l.length
  ·rw[ay (by omega)]
   rw[bB,bX (by rw[aT];omega),aT,dK (by omega),bi (by omega)]at hv
   rw[aO,hv];rfl
  ·rw[ah (by omega)]
   rw[bX (by rw[aN,aT];omega),aN,aT,dK (by omega),dz,show o+l.length+(i - (o+l.length))=i by omega]at hv
   exact k5 i v hv
theorem kV.all(k:kV u h b cs)(hn:cs.length=n):sO h b 0 n=cs:=by
 subst hn
 refine bW λi=> ?_
 unfold sO
 rw[aR]
 by_cases hi:i<cs.length
 ·rw[bT hi,aL hi,bH]
  have:=k.2.2.2.2 i cs[i] (by simp [hi])
  simpa using this
 ·rw[aW (by simpa using jq.1 hi),aW (by omega)];rfl
def pV(l:List (Int×Int)):List Value:=l.flatMap λp=>[.int .i64 p.1,.int .i64 p.2]
def lT(l:List Int):List Value:=l.map λx=> .int .i64 x
def Bq(k:Nat)(l:List Value):List Value:=l++List.replicate (k - l.length) (.int .i64 0)
theorem rP(l:List (Int×Int)):(pV l).length=2*l.length:=by
 induction l with
 |nil=>rfl
 |cons p l ih=>unfold pV at*;rw[dQ,aN,ih];simp;omega
theorem KT: ∀{l m:List (Int×Int)},pV l=pV m->l=m
 |[],[],_=>rfl
 |[],q::m,h=>by simp [pV]at h
 |p::l,[],h=>by simp [pV]at h
 |p::l,q::m,h=>by
  simp only[pV,dQ,bO,bI,aG,Value.int.injEq,dN]at h
  rw[Prod.ext h.1 h.2.1,KT h.2.2]
theorem KU: ∀{l m:List Int},lT l=lT m->l=m
 |[],[],_=>rfl
 |[],q::m,h=>by simp [lT]at h
 |p::l,[],h=>by simp [lT]at h
 |p::l,q::m,h=>by
  simp only[lT,bF,aG,Value.int.injEq,dN]at h
  rw[h.1,KU h.2]
def hdC(n:lG):List Value:=[.int .i64 n.1,.int .i64 n.2.1,.int .i64 n.2.2.1,.int .i64 n.2.2.2.2.2.1.1,.bool n.2.2.2.2.2.1.2.1.1,.int .i64 n.2.2.2.2.2.1.2.1.2,.bool n.2.2.2.2.2.1.2.2.1,.int .i64 n.2.2.2.2.2.1.2.2.2,.int .i64 (n.2.2.2.1.length:Nat)]
def tu(n:lG):List Value:=hdC n++(Bq 16 (pV n.2.2.2.1)++([.int .i64 (n.2.2.2.2.1.length:Nat)]++(Bq 8 (lT n.2.2.2.2.1)++[.int .i64 n.2.2.2.2.2.2])))
def pJ(x:Int):Prop:= -1000000000<=x/\x<=1000000000
def wz(n:lG):Prop:=pJ n.1/\pJ n.2.1/\pJ n.2.2.1/\pJ n.2.2.2.2.2.1.1/\pJ n.2.2.2.2.2.1.2.1.2/\pJ n.2.2.2.2.2.1.2.2.2/\pJ n.2.2.2.2.2.2/\n.2.2.2.1.length<=8/\n.2.2.2.2.1.length<=8/\(∀p∈n.2.2.2.1,pJ p.1/\pJ p.2)/\ ∀x∈n.2.2.2.2.1,pJ x
theorem qH(h:l.length<=k):(Bq k l).length=k:=by unfold Bq;simp;omega
theorem QO{n:lG}(h:wz n):(tu n).length=35:=by
 obtain⟨-,-,-,-,-,-,-,h8,h9,-⟩:=h
 unfold tu
 simp only[aN,qH (show(pV n.2.2.2.1).length<=16 by rw[rP];omega),qH (show(lT n.2.2.2.2.1).length<=8 by simpa [lT]using h9),hdC,aM,bg]
theorem abI{a b:lG}(ha:wz a)(hb:wz b)(h:tu a=tu b):a=b:=by
 obtain⟨-,-,-,-,-,-,-,a8,a9,-⟩:=ha
 obtain⟨-,-,-,-,-,-,-,b8,b9,-⟩:=hb
 unfold tu at h
 obtain⟨h1,h⟩:=fV h rfl
 obtain⟨h2,h⟩:=fV h (by rw[qH (by rw[rP];omega),qH (by rw[rP];omega)])
 obtain⟨h3,h⟩:=fV h rfl
 obtain⟨h4,h5⟩:=fV h (by rw[qH (by simpa [lT]using a9),qH (by simpa [lT]using b9)])
 simp only[hdC,aG,Value.int.injEq,Value.bool.injEq,dN,aP]at h1 h3 h5
 obtain⟨e1,e2,e3,e4,e5,e6,e7,e8,e9⟩:=h1
 have l1:pV a.2.2.2.1=pV b.2.2.2.1:=by
  unfold Bq at h2
  exact(fV h2 (by rw[rP,rP];omega)).1
 have l2:lT a.2.2.2.2.1=lT b.2.2.2.2.1:=by
  unfold Bq at h4
  exact(fV h4 (by simp only[lT,aQ];omega)).1
 obtain⟨x1,x2,x3,x4,x5,⟨x6,⟨x7,x8⟩,x9,x10⟩,x11⟩:=a
 obtain⟨y1,y2,y3,y4,y5,⟨y6,⟨y7,y8⟩,y9,y10⟩,y11⟩:=b
 simp only at*
 rw[e1,e2,e3,e4,e5,e6,e7,e8,KT l1,KU l2,h5]
def Zm:List Kc:=[.int .i64,.int .i64,.int .i64,.int .i64,.bool,.int .i64,.bool,.int .i64,.int .i64]++(List.replicate 16 (.int .i64)++([.int .i64]++(List.replicate 8 (.int .i64)++[.int .i64])))
theorem zm: ∀{a b:List Kc} {x y:List Value},nJ a x=true->nJ b y=true->nJ (a++b) (x++y)=true
 |[],b,[],y,_,h=>h
 |[],_,_::_,_,h,_=>by cases h
 |_::_,_,[],_,h,_=>by cases h
 |k::a,b,v::x,y,h,h2=>by
  simp only[nJ,bA,bO]at h ⊢
  exact⟨h.1,zm h.2 h2⟩
theorem ry{x:Int}(h:pJ x):Gj (.int .i64) (.int .i64 x)=true:=by
 obtain⟨h1,h2⟩:=h
 simp only[Gj,decide_true,fu,Lit.wf]
 simp [IntKind.min,IntKind.max,IntKind.signed,IntKind.bits]
 omega
theorem Ij: ∀{l:List Value},(∀v∈l,∃x,pJ x/\v= .int .i64 x)->nJ (List.replicate l.length (.int .i64)) l=true
 |[],_=>rfl
 |v::l,h=>by
  obtain⟨x,hx,rfl⟩:=h v (by simp)
  simp only[aM,iY,nJ,bA]
  exact⟨ry hx,Ij λw q=>h w (by simp [q])⟩
theorem FK{n:lG}(hf:wz n):ES Zm (.agg (tu n).toArray)=true:=by
 obtain⟨h1,h2,h3,h4,h5,h6,h7,h8,h9,h10,h11⟩:=hf
 have hz:pJ 0:=⟨by decide,by decide⟩
 show nJ Zm (tu n).toArray.toList=true
 unfold Zm tu
 refine zm ?_ (zm ?_ (zm ?_ (zm ?_ ?_)))
 ·simp only[hdC,nJ,ry h1,ry h2,ry h3,ry h4,ry h5,ry h6,ry (show pJ ((n.2.2.2.1.length:Nat):Int)from⟨by omega,by omega⟩),jk,gI]
  rfl
 ·have:=Ij (l:=Bq 16 (pV n.2.2.2.1)) λv hv=>by
   unfold Bq at hv
   rcases bG.1 hv with hv|hv
   ·obtain⟨p,hp,hv⟩:=fM.1 hv
    have:=h10 p hp
    simp only[bn,gG,or_false]at hv
    rcases hv with rfl|rfl
    ·exact⟨_,this.1,rfl⟩
    ·exact⟨_,this.2,rfl⟩
   ·exact⟨0,hz,(jg.1 hv).2⟩
  rw[qH (by rw[rP];omega)]at this
  exact this
 ·simp only[nJ,ry (show pJ ((n.2.2.2.2.1.length:Nat):Int)from⟨by omega,by omega⟩),gI]
 ·have:=Ij (l:=Bq 8 (lT n.2.2.2.2.1)) λv hv=>by
   unfold Bq at hv
   rcases bG.1 hv with hv|hv
   ·obtain⟨p,hp,rfl⟩:=bq.1 hv
    exact⟨_,h11 p hp,rfl⟩
   ·exact⟨0,hz,(jg.1 hv).2⟩
  rw[qH (by simpa [lT]using h9)]at this
  exact this
 ·simp only[nJ,ry h7,gI]
theorem KV{l:List (Int×Int)}:(pV l).all mg=true:=by
 rw[bU]
 intro v hv
 obtain⟨p,hp,hv⟩:=fM.1 hv
 simp only[bn,gG,or_false]at hv
 rcases hv with rfl|rfl<;>rfl
theorem KW{l:List Int}:(lT l).all mg=true:=by
 rw[bU]
 intro v hv
 obtain⟨p,hp,rfl⟩:=bq.1 hv
 rfl
theorem WH(h:l.all mg=true):(Bq k l).all mg=true:=by
 unfold Bq
 rw[fo,h,fu,bU]
 intro v hv
 rw[(jg.1 hv).2];rfl
theorem Ik{n:lG}:(tu n).all mg=true:=by
 unfold tu
 rw[fo,fo,fo,fo,WH KV,WH KW]
 rfl
theorem YD{l:List (Int×Int)}(hs:kM u h (.slice a n c) l):Au h a (n*2) (pV l)/\n=l.length:=by
 obtain⟨e,-,news,h1,h2,-,h4⟩:=hs.rows
 have hz:sz (Int×Int)=2:=rfl
 rw[hz]at h1 h2
 have key: ∀(l:List (Int×Int)) (news:List Value),news.length=l.length*2->(∀i x,l[i]? =some x->rep u h x ((news.drop (i*2)).take 2))->news=pV l:=by
  intro l
  induction l with
  |nil=>intro news hl _;exact cO (by simpa using hl)
  |cons p l ih=>
   intro news hl hr
   match news,hl with
   |[],hl=>simp at hl
   |[_],hl=>simp at hl;omega
   |x::y::r,hl=>
    have h0:=hr 0 p rfl
    simp only[mO,lD]at h0
    obtain⟨c1,c2,e,rfl,rfl⟩:=h0
    simp at e
    rw[e.1,e.2,ih r (by simp at hl;omega) λi z hz=>by
     have:=hr (i+1) z (by simpa using hz)
     rw[show(i+1)*2=i*2+2 by omega]at this
     simpa using this]
    rfl
 rw[e]at h2 h1 ⊢
 rw[<-key l news h2 (λi x hx=>by have:=h4 i x hx;rw[hz]at this;exact this)]
 exact⟨h1,rfl⟩
theorem YE{l:List Int}(hs:kM u h (.slice a n c) l):Au h a (n*1) (lT l)/\n=l.length:=by
 obtain⟨e,-,news,h1,h2,-,h4⟩:=hs.rows
 have hz:sz Int=1:=rfl
 rw[hz]at h1 h2
 have key: ∀(l:List Int) (news:List Value),news.length=l.length*1->(∀i x,l[i]? =some x->rep u h x ((news.drop (i*1)).take 1))->news=lT l:=by
  intro l
  induction l with
  |nil=>intro news hl _;exact cO (by simpa using hl)
  |cons p l ih=>
   intro news hl hr
   match news,hl with
   |[],hl=>simp at hl
   |x::r,hl=>
    have h0:=hr 0 p rfl
    rw[lD]at h0
    simp at h0
    rw[h0,ih r (by simp at hl;omega) λi z hz=>by
     have:=hr (i+1) z (by simpa using hz)
     rw[aZ]at this ⊢
     simpa using this]
    rfl
 rw[e]at h2 h1 ⊢
 rw[<-key l news h2 (λi x hx=>by have:=h4 i x hx;rw[hz]at this;exact this)]
 exact⟨h1,rfl⟩
end Go.Ev
namespace Go.Ev
open Go Rep Edict
theorem oL{u:U}{h:H}{x:lG}{cs:List Value}:rep u h x cs=(∃v w,cs=[.int .i64 x.1,.int .i64 x.2.1,.int .i64 x.2.2.1,v,w,.int .i64 x.2.2.2.2.2.1.1,.bool x.2.2.2.2.2.1.2.1.1,.int .i64 x.2.2.2.2.2.1.2.1.2,.bool x.2.2.2.2.2.1.2.2.1,.int .i64 x.2.2.2.2.2.1.2.2.2,.int .i64 x.2.2.2.2.2.2]/\kM u h v x.2.2.2.1/\kM u h w x.2.2.2.2.1):=by
 apply propext
 simp only[mO,qi,lD,vE]
 constructor
 ·rintro ⟨_,_,rfl,rfl,_,_,rfl,rfl,_,_,rfl,rfl,_,_,rfl,⟨v,rfl,i⟩,_,_,rfl,⟨w,rfl,j⟩,_,_,rfl,⟨_,_,rfl,rfl,_,_,rfl,⟨_,_,rfl,rfl,rfl⟩,_,_,rfl,rfl,rfl⟩,rfl⟩
  exact⟨v,w,rfl,i,j⟩
 ·rintro ⟨v,w,rfl,i,j⟩
  exact⟨_,_,rfl,rfl,_,_,rfl,rfl,_,_,rfl,rfl,_,_,rfl,⟨v,rfl,i⟩,_,_,rfl,⟨w,rfl,j⟩,_,_,rfl,⟨_,_,rfl,rfl,_,_,rfl,⟨_,_,rfl,rfl,rfl⟩,_,_,rfl,rfl,rfl⟩,rfl⟩
theorem rF:sz lG=11:=rfl
def qM(n:lG)(v w:Value):List Value:=[.int .i64 n.1,.int .i64 n.2.1,.int .i64 n.2.2.1,v,w,.int .i64 n.2.2.2.2.2.1.1,.bool n.2.2.2.2.2.1.2.1.1,.int .i64 n.2.2.2.2.2.1.2.1.2,.bool n.2.2.2.2.2.1.2.2.1,.int .i64 n.2.2.2.2.2.1.2.2.2,.int .i64 n.2.2.2.2.2.2]
end Go.Ev
namespace Go.Proofs.Z
open Go Go.Ev Edict
variable {vs:List Value} {h:H} {K:Value->H->Prop} {KP:List PanicEntry->H->Prop}
def UA(vs:List Value)(h:H)(K:Value->H->Prop):Prop:= ∃(u:U),vs=[]/\ ∀u' h',kG S0 u h u' h'->K (.agg (qM mR (.slice none 0 0) (.slice none 0 0)).toArray) h'
theorem KS(hC:UA vs h K):ma Tryz.prog 16 vs h K KP:=by
 obtain⟨u,rfl,hK⟩:=hC
 refine kP 1 [((some (.c1 (.ldn 11) (.t 0))),(.o1 (.ldn 11) (.t 0)))] (G:=(λ_ _ _ _ _=>False)) (λ_ _ _ _ _ h=>h.elim) Tryz.func16 (by kernel_rfl) (by conv=>lhs;cbv;try simp only[mF]) ?_
 obtain⟨h1',h1,u1,hh1',hh1,B1',B1,s1,hz1⟩:=kZ u h [.int .i64 0,.int .i64 0,.int .i64 0,.slice none 0 0,.slice none 0 0,.int .i64 0,.bool false,.int .i64 0,.bool false,.int .i64 0,.int .i64 0] (qM mR (.slice none 0 0) (.slice none 0 0)) 36 rfl
 have hK:=hK _ _ s1
 simp only[qM,mR,oQ,Jc]at hh1 B1 hK
 have B11:=B1.1
 have B1'1:=B1'.1
 simp(disch:=first|omega|simp only[zz];try omega;done) only[↓reduceIte,go_sem,<-hh1',B1'.2.1,B1'.2.2.1,<-hh1,B1.at,B1.2.1]
 exact hK
def Ih(vs:List Value)(h:H)(K:Value->H->Prop):Prop:= ∃(u:U) (n:lG) (v w:Value),vs=[.agg (qM n v w).toArray]/\kM u h v n.2.2.2.1/\kM u h w n.2.2.2.2.1/\n.2.2.2.1.length<=8/\n.2.2.2.2.1.length<=8/\ ∀u' h',kG S0 u h u' h'->K (.tuple #[.agg (tu n).toArray,.bool true]) h'
def zK:List Value:=[.int .i64 0,.int .i64 0,.int .i64 0,.int .i64 0,.bool false,.int .i64 0,.bool false,.int .i64 0,.int .i64 0,.int .i64 0,.int .i64 0,.int .i64 0,.int .i64 0,.int .i64 0,.int .i64 0,.int .i64 0,.int .i64 0,.int .i64 0,.int .i64 0,.int .i64 0,.int .i64 0,.int .i64 0,.int .i64 0,.int .i64 0,.int .i64 0,.int .i64 0,.int .i64 0,.int .i64 0,.int .i64 0,.int .i64 0,.int .i64 0,.int .i64 0,.int .i64 0,.int .i64 0,.int .i64 0]
def YB(n:lG):List Value:=hdC n++(List.replicate 16 (.int .i64 0)++([.int .i64 (n.2.2.2.2.1.length:Nat)]++(List.replicate 8 (.int .i64 0)++[.int .i64 n.2.2.2.2.2.2])))
theorem abF{n:lG}(h1:n.2.2.2.1.length<=8)(h2:n.2.2.2.2.1.length<=8):ovr 26 (lT n.2.2.2.2.1) (ovr 9 (pV n.2.2.2.1) (YB n))=tu n:=by
 have l1:=rP n.2.2.2.1
 have l2:(lT n.2.2.2.2.1).length=n.2.2.2.2.1.length:=by simp [lT]
 have e1:ovr 9 (pV n.2.2.2.1) (YB n)=hdC n++(Bq 16 (pV n.2.2.2.1)++([.int .i64 (n.2.2.2.2.1.length:Nat)]++(List.replicate 8 (.int .i64 0)++[.int .i64 n.2.2.2.2.2.2]))):=by
  have:=WG (hdC n) (List.replicate 16 (.int .i64 0)) ([.int .i64 (n.2.2.2.2.1.length:Nat)]++(List.replicate 8 (.int .i64 0)++[.int .i64 n.2.2.2.2.2.2])) (pV n.2.2.2.1) (by rw[dE];omega)
  rw[jb]at this
  exact this
 rw[e1]
 have:=WG (hdC n++(Bq 16 (pV n.2.2.2.1)++[.int .i64 (n.2.2.2.2.1.length:Nat)])) (List.replicate 8 (.int .i64 0)) [.int .i64 n.2.2.2.2.2.2] (lT n.2.2.2.2.1) (by rw[dE];omega)
 rw[jb,aN,aN,qH (by omega)]at this
 have e9:(hdC n).length+(16+[Value.int .i64 (n.2.2.2.2.1.length:Nat)].length)=26:=rfl
 rw[e9]at this
 unfold tu
 simp only[bB]at this ⊢
 rw[this]
 unfold Bq
 simp
theorem EE(hC:Ih vs h K):ma Tryz.prog 49 vs h K KP:=by
 obtain⟨u,n,v,w,rfl,iv,iw,h8,h9,hK⟩:=hC
 refine kP 16415 [((some (.c1 (.ldn 35) (.t 2))),(.o1 (.ldn 35) (.t 2))),(none,(.t 3))] (G:=(λ_ _ _ _ _=>False)) (λ_ _ _ _ _ h=>h.elim) Tryz.func49 (by kernel_rfl) (by conv=>lhs;cbv;try simp only[mF]) ?_
 obtain⟨va,vc,rfl,-,-⟩:=iv.sl
 obtain⟨wa,wc,rfl,-,-⟩:=iw.sl
 obtain⟨h1,u1,hh1,zh1,p1,N1⟩:=kL u h (qM n (.slice va n.2.2.2.1.length vc) (.slice wa n.2.2.2.2.1.length wc)) 36
 obtain⟨h2,u2,hh2,zh2,p2,R2⟩:=kL u1 h1 zK 128
 obtain⟨h3',h3,u3,hh3',hh3,A3',A3,s3,hz3⟩:=kZ u2 h2 zK (YB n) 128 rfl
 obtain⟨nb,hnb⟩:=kJ h.size
 obtain⟨rb,hrb⟩:=kJ h1.size
 obtain⟨ab,hab⟩:=kJ h2.size
 rw[<-hnb]at N1
 rw[<-hrb]at R2
 rw[<-hab]at A3' A3 hh3
 have kb:YB n=[.int .i64 n.1,.int .i64 n.2.1,.int .i64 n.2.2.1,.int .i64 n.2.2.2.2.2.1.1,.bool n.2.2.2.2.2.1.2.1.1,.int .i64 n.2.2.2.2.2.1.2.1.2,.bool n.2.2.2.2.2.1.2.2.1,.int .i64 n.2.2.2.2.2.1.2.2.2,.int .i64 (n.2.2.2.1.length:Nat),.int .i64 0,.int .i64 0,.int .i64 0,.int .i64 0,.int .i64 0,.int .i64 0,.int .i64 0,.int .i64 0,.int .i64 0,.int .i64 0,.int .i64 0,.int .i64 0,.int .i64 0,.int .i64 0,.int .i64 0,.int .i64 0,.int .i64 (n.2.2.2.2.1.length:Nat),.int .i64 0,.int .i64 0,.int .i64 0,.int .i64 0,.int .i64 0,.int .i64 0,.int .i64 0,.int .i64 0,.int .i64 n.2.2.2.2.2.2]:=rfl
 have N2:=N1.sZ p2
 have N3:=N2.sZ s3
 have R3:=R2.sZ s3
 have st3:=(p1.tZ p2).tZ s3
 have lkb:(YB n).length=35:=rfl
 have l1:=rP n.2.2.2.1
 have l2:(lT n.2.2.2.2.1).length=n.2.2.2.2.1.length:=by simp [lT]
 -- the copies
 have A4:=A3.setsAt (o:=9) (l:=pV n.2.2.2.1) (by omega)
 have s4:=kG.sets (S:=λb=>b=ab) u3 h3 (b:=ab) (o:=9) (pV n.2.2.2.1) rfl (by rw[A3.2.2.2.1];exact az _) (by rw[A3.2.1];omega)
 obtain⟨h4,hh4⟩:=kJ (kU h3 ab 9 (pV n.2.2.2.1))
 rw[<-hh4]at A4 s4
 have lov:(ovr 9 (pV n.2.2.2.1) (YB n)).length=35:=by unfold ovr;simp;omega
 have A5:=A4.setsAt (o:=26) (l:=lT n.2.2.2.2.1) (by omega)
 have s5:=kG.sets (S:=λb=>b=ab) u3 h4 (b:=ab) (o:=26) (lT n.2.2.2.2.1) rfl (by rw[A4.2.2.2.1];exact az _) (by rw[A4.2.1];omega)
 obtain⟨h5,hh5⟩:=kJ (kU h4 ab 26 (lT n.2.2.2.2.1))
 rw[<-hh5]at A5 s5
 rw[abF h8 h9]at A5
 have hab0:h.size<=ab:=by omega
 have hrb0:h.size<=rb:=by omega
 have hna:nb≠ab:=by omega
 have hra:rb≠ab:=by omega
 have N4:=N3.step s4 hna
 have N5:=N4.step s5 hna
 have R5:=(R3.step s4 hra).step s5 hra
 have st5:=(st3.own s4 λb q=>by rw[q];exact hab0).own s5 λb q=>by rw[q];exact hab0
 have hk35:(tu n).length=35:=by
  unfold tu
  simp only[aN,qH (show(pV n.2.2.2.1).length<=16 by omega),qH (show(lT n.2.2.2.2.1).length<=8 by omega),hdC,aM,bg]
 have sR:=kG.sets (S:=λb=>b=rb) u3 h5 (b:=rb) (o:=0) (tu n) rfl (by rw[R5.2.2.2.1];exact az _) (by rw[R5.2.1,hk35];exact aH _)
 have RH:=R5.sets (l:=tu n) (by rw[hk35];rfl)
 obtain⟨h6,hh6⟩:=kJ (kU h5 rb 0 (tu n))
 rw[<-hh6]at sR RH
 have hK:=hK u3 h6 (st5.own sR λb q=>by rw[q];exact hrb0)
 simp only[qM]at hh1 N1 N2 N3 N4 N5 ⊢
 rw[kb]at hh3
 simp only[zK]at hh2 hh3' A3' R2 R3 R5
 have N11:=N1.1
 have N21:=N2.1
 have N31:=N3.1
 have N41:=N4.1
 have A3'1:=A3'.1
 have A31:=A3.1
 have A51:=A5.1
 have R51:=R5.1
 have RH1:=RH.1
 have iv3:=iv.mono st3.ge
 have iw4:=(iw.mono st3.ge).mono s4.ge
 simp(disch:=first|omega|simp only[zz];try omega;done) only[↓reduceIte,go_sem,<-hh1,<-hnb,<-hh2,<-hrb,N2.at,N2.2.1,au (show¬(8:Int)<n.2.2.2.1.length by omega),au (show¬(8:Int)<n.2.2.2.2.1.length by omega),<-hab,<-hh3',A3'.2.1,A3'.2.2.1,<-hh3,N3.at,N3.2.1]
 have m1:min n.2.2.2.1.length 8=n.2.2.2.1.length:=dK h8
 have m2:min n.2.2.2.2.1.length 8=n.2.2.2.2.1.length:=dK h9
 refine Sr (news:=pV n.2.2.2.1) (by rw[m1];exact(YD iv3).1) ⟨by rw[A3.2.1];omega,.inr (by rw[A3.2.2.1];exact az _),KV⟩ ⟨kY,?_⟩
 simp(disch:=first|omega|simp only[zz];try omega;done) only[↓reduceIte,go_sem,<-hh4,N4.at,N4.2.1]
 refine Sr (news:=lT n.2.2.2.2.1) (by rw[m2];exact(YE iw4).1) ⟨by rw[A4.2.1];omega,.inr (by rw[A4.2.2.1];exact az _),KW⟩ ⟨kY,?_⟩
 rw[<-hh5]
 have a35:=A5.all hk35
 have r35:=RH.all hk35
 have okk:(tu n).all mg=true:=Ik
 simp(disch:=first|omega|simp only[zz];try omega;done) only[↓reduceIte,go_sem,A5.2.1,hk35,a35,R5.2.1,R5.2.2.1,okk,<-hh6,RH.2.1,r35]
 exact hK
def abG(vs:List Value)(h:H)(K:Value->H->Prop):Prop:= ∃(u:U) (v w:Value) (l m:List Int),vs=[v,w]/\kM u h v l/\kM u h w m/\l.length<=1000000/\K (.bool (decide (l=m))) h
theorem Ii(hC:abG vs h K):ma Tryz.prog 71 vs h K KP:=by
 obtain⟨u,v,w,l,m,rfl,iv,iw,hl,hK⟩:=hC
 refine kP 16806963 [(none,(.t 4))] (G:=(λ_ _ _ _ _=>False)) (λ_ _ _ _ _ h=>h.elim) Tryz.func71 (by kernel_rfl) (by conv=>lhs;cbv;try simp only[mF]) ?_
 obtain⟨va,vc,rfl,-,-⟩:=iv.sl
 obtain⟨wa,wc,rfl,-,-⟩:=iw.sl
 by_cases hlm:l.length=m.length
 case neg=>
  rw[decide_eq_false (λe=>hlm (bL List.length e))]at hK
  simp(disch:=first|omega|simp only[zz];try omega;done) only[↓reduceIte,go_sem,au (show¬(l.length:Int)=m.length by omega)]
  exact hK
 simp(disch:=first|omega|simp only[zz];try omega;done) only[↓reduceIte,go_sem,af (show(l.length:Int)=m.length by omega)]
 obtain⟨I,hI⟩:=kJ (α:=Nat->lm->H->Prop) λk σ h'=>σ 0= .slice va l.length vc/\σ 1= .slice wa m.length wc/\σ 12= .int .i64 (l.length:Nat)/\σ 13= .int .i64 k/\h'=h/\k<=l.length/\l.take k=m.take k
 refine kH I (λj=>l.length - j) 0 (by rw[hI];exact⟨by simp [kF],by simp [kF],by simp [kF,hlm],by simp [kF],rfl,by omega,by simp⟩) ?_
 intro k σ h' hi
 rw[hI]at hi
 obtain⟨e0,e1,e12,e13,rfl,hk,heq⟩:=hi
 by_cases hlt:k<l.length
 case neg=>
  rw[aK (by omega),aK (by omega)]at heq
  rw[decide_eq_true heq]at hK
  simp(disch:=first|omega|simp only[zz];try omega;done) only[↓reduceIte,go_sem,e12,e13,au (show¬(k:Int)<(l.length:Nat) by omega)]
  exact hK
 obtain⟨y,hy⟩:=uu hlt
 obtain⟨z,hz⟩: ∃z,m[k]? =some z:=⟨m[k]'(by omega),by rw[aL]⟩
 obtain⟨pb,po,rfl,hpb,hpu,hpz,hpr⟩:=iv.row k y hy
 obtain⟨qb,qo,rfl,hqb,hqu,hqz,hqr⟩:=iw.row k z hz
 rw[lD]at hpr hqr
 simp only[nM,oV,aG,aP]at hpr hpu hpz hqr hqu hqz
 have hlm':k<m.length:=by omega
 by_cases hyz:y=z
 ·simp(disch:=first|omega|simp only[zz];try omega;done) only[↓reduceIte,go_sem,e0,e1,e12,e13,af (show(k:Int)<(l.length:Nat) by omega),af (show(k:Int)<(m.length:Nat) by omega),af (show(0:Int)<=(k:Int) by omega),hpr,hqr,af hyz]
  exact⟨k+1,by rw[hI];exact⟨by simp [kF,e0],by simp [kF,e1],by simp [kF,e12],by simp [kF],rfl,hlt,by rw[aS,aS,hy,hz,heq,hyz]⟩,by omega⟩
 ·rw[decide_eq_false (λe=>hyz (by rw[e,hz]at hy;exact(bu hy).symm))]at hK
  simp(disch:=first|omega|simp only[zz];try omega;done) only[↓reduceIte,go_sem,e0,e1,e12,e13,af (show(k:Int)<(l.length:Nat) by omega),af (show(k:Int)<(m.length:Nat) by omega),af (show(0:Int)<=(k:Int) by omega),hpr,hqr,au hyz]
  exact hK
def abH(vs:List Value)(h:H)(K:Value->H->Prop):Prop:= ∃k:Int,vs=[.int .i64 k]/\0<=k/\k<=1000000/\K (.int .i64 (-1 - k)) h
theorem YC(hC:abH vs h K):ma Tryz.prog 99 vs h K KP:=by
 obtain⟨k,rfl,h0,h1,hK⟩:=hC
 refine kP 5 [(none,(.t 2))] (G:=(λ_ _ _ _ _=>False)) (λ_ _ _ _ _ h=>h.elim) Tryz.func99 (by kernel_rfl) (by conv=>lhs;cbv;try simp only[mF]) ?_
 simp(disch:=first|omega|simp only[zz];try omega;done) only[↓reduceIte,go_sem]
 exact hK
end Go.Proofs.Z
namespace Edict
variable {k:Nat} {n:Int} {l:List pW}
def Bp(l:List pW)(k:Nat)(n:Int):Option Int:=if(l.take k).any (λt=>t.1 && decide (t.2=n))=true then some ((mq l n:Nat):Int)else none
theorem KR(h:(l.take k).any (λt=>t.1 && decide (t.2=n))=true):Bp l k n=some ((mq l n:Nat):Int):=ay h
theorem Yz(h: ¬(l.take k).any (λt=>t.1 && decide (t.2=n))=true):Bp l k n=none:=ah h
theorem Uy(hk:l[k]? =some (true,n))(h: ¬(l.take k).any (λt=>t.1 && decide (t.2=n))=true):mq l n=k:=by
 have h1:=xC (n:=n) hk rfl rfl
 obtain⟨h2,t,h3,h4,h5⟩:=xB (l:=l) (n:=n) ⟨_,aI hk,rfl,rfl⟩
 apply bR
 intro hne
 refine h (fK.2 ⟨t,?_,by simp [h4,h5]⟩)
 exact aI (i:=mq l n) (by rw[bV,ay (by omega)];exact h3)
theorem DR{s:pW}(hk:l[k]? =some s):Bp l (k+1) n=if s.1=true/\s.2=n then some ((mq l n:Nat):Int)else Bp l k n:=by
 unfold Bp
 rw[aS,hk,List.any_append]
 simp only[je,List.any_cons,List.any_nil,jY,fq,bA,bf]
 by_cases h:s.1=true/\s.2=n
 ·rw[ay (.inr h),ay h]
 ·rw[ah h]
  by_cases h2:(l.take k).any (λt=>t.1 && decide (t.2=n))=true
  ·rw[ay (.inl h2),ay h2]
  ·rw[ah (λq=>q.elim h2 h),ah h2]
end Edict
namespace Go.Proofs.Z
open Go Go.Ev Edict
def WF(vs:List Value)(h:H)(K:Value->H->Prop):Prop:= ∃(u:U) (p:pK) (v:Value),vs=[.agg #[.int .i64 p.1,v]]/\kM u h v p.2/\sN p/\ ∀u' h' w,kG S0 u h u' h'->kM u' h' w (lJ p).2->K (.agg #[.int .i64 p.1,w]) h'
def YA:mG:=λf vs h K _=>f=99/\abH vs h K
theorem Nt:nz Tryz.prog YA:=qd YC
theorem Uz{vs:List Value}{h:H}{K:Value->H->Prop}{KP:List PanicEntry->H->Prop}(hC:WF vs h K):ma Tryz.prog 77 vs h K KP:=by
 obtain⟨u,⟨p,l⟩,v,rfl,iv,⟨hp0,hl8,hls⟩,hK⟩:=hC
 simp only at iv hp0 hl8 hls
 refine kP 562954800997375 [((some (.c1 (.ldn 2) (.t 2))),(.o1 (.ldn 2) (.t 2)))] Nt Tryz.func77 (by kernel_rfl) (by conv=>lhs;cbv;try simp only[mF]) ?_
 obtain⟨va,vc,rfl,-,-⟩:=iv.sl
 obtain⟨h1,u1,hh1,zh1,p1,A1⟩:=kL u h [.int .i64 p,.slice va l.length vc] 59
 obtain⟨h2,u2,hh2,zh2,p2,R2⟩:=kL u1 h1 [.int .i64 0,.slice none 0 0] 165
 obtain⟨h3',h3,u3,hh3',hh3,N3',N3,s3,hz3⟩:=kZ u2 h2 [.int .i64 0,.slice none 0 0] [.int .i64 (-1),.slice none 0 0] 165 rfl
 obtain⟨h4',h4,u4,hh4',hh4,S4',S4,s4,hz4⟩:=kZ u3 h3 [.int .i64 0,.slice none 0 0] [.int .i64 p,.slice none 0 0] 165 rfl
 obtain⟨ab,hab⟩:=kJ h.size
 obtain⟨rb,hrb⟩:=kJ h1.size
 obtain⟨nb,hnb⟩:=kJ h2.size
 obtain⟨sb,hsb⟩:=kJ h3.size
 rw[<-hab]at A1
 rw[<-hrb]at R2
 rw[<-hnb]at N3' N3 hh3
 rw[<-hsb]at S4' S4 hh4
 have A3:=(A1.sZ p2).sZ s3
 have A4:=A3.sZ s4
 have R4:=(R2.sZ s3).sZ s4
 have st4:=((p1.tZ p2).tZ s3).tZ s4
 have A31:=A3.1
 have A41:=A4.1
 have N3'1:=N3'.1
 have S4'1:=S4'.1
 have hrb0:h.size<=rb:=by omega
 have hsb0:h.size<=sb:=by omega
 simp(disch:=first|omega|simp only[zz];try omega;done) only[↓reduceIte,go_sem,<-hh1,<-hab,<-hh2,<-hrb,<-hnb,<-hh3',N3'.2.1,N3'.2.2.1,<-hh3,A3.at,A3.2.1,au (show¬p<0 by omega),<-hsb,<-hh4',S4'.2.1,S4'.2.2.1,<-hh4]
 refine Zl u4 λu5 h5 s5 M5=>⟨kY,?_⟩
 have A5:=A4.sZ s5
 have A51:=A5.1
 obtain⟨mb,hmb⟩:=kJ h4.size
 rw[<-hmb]at M5 ⊢
 have hsm:sb<mb:=by have:=S4.1;omega
 simp(disch:=first|omega|simp only[zz];try omega;done) only[↓reduceIte,go_sem,A5.at,A5.2.1]
 obtain⟨I,hI⟩:=kJ (α:=Nat->lm->H->Prop) λk σ h'=> ∃(u':U) (x:Value) (c:Nat),σ 2= .pointer (some ⟨rb,0,none⟩)/\σ 4= .pointer (some ⟨sb,0,none⟩)/\σ 5= .map (some mb)/\σ 20= .slice va l.length vc/\σ 21= .int .i64 (l.length:Nat)/\σ 22= .int .i64 k/\k<=l.length/\kG S0 u h u' h'/\kV u' h' rb [.int .i64 0,.slice none 0 0]/\kV u' h' sb [.int .i64 p,x]/\mr sb u' h' x ((l.take k).map (mW l))/\ ¬kN x sb/\ ¬kN x mb/\CY h' mb (Bp l k) c
 refine kH I (λj=>l.length - j) 0 (by rw[hI];exact⟨u5,.slice none 0 0,0,by simp [kF],by simp [kF],by simp [kF],by simp [kF],by simp [kF],by simp [kF],by omega,st4.tZ s5,R4.sZ s5,S4.sZ s5,by simpa using mr.nil _ _ _,xE _,xE _,by
  have e:Bp l 0=λ_=>none:=funext λn=>by simp [Bp]
  rw[e];exact M5⟩) ?_
 clear hh1 hh2 hh3 hh3' hh4 hh4' A1 A3 A4 A5 R2 R4 S4 S4' N3 N3' s5 M5
 intro k σ h' hi
 rw[hI]at hi
 obtain⟨u',x,c,e2,e4,e5,e20,e21,e22,hk,st,R,S,ow,nx,nm,M⟩:=hi
 have R1:=R.1
 have S1:=S.1
 have hml:=M.lt
 obtain⟨xa,xc,rfl,-,-⟩:=ow.sl
 by_cases hlt:k<l.length
 case neg=>
  rw[aK (by omega)]at S ow nx nm
  have sR:=kG.sets (S:=λb=>b=rb) u' h' (b:=rb) (o:=0) [.int .i64 p,.slice xa (l.map (mW l)).length xc] rfl (by rw[R.2.2.2.1];exact az _) (by rw[R.2.1];exact aH _)
  have RH:=R.sets (l:=[.int .i64 p,.slice xa (l.map (mW l)).length xc]) rfl
  obtain⟨h9,hh9⟩:=kJ (kU h' rb 0 [.int .i64 p,.slice xa (l.map (mW l)).length xc])
  rw[<-hh9]at sR RH
  have RH1:=RH.1
  have hK:=hK u' h9 _ (st.own sR λb q=>by rw[q];exact hrb0) (ow.iZ.mono sR.ge)
  simp(disch:=first|omega|simp only[zz];try omega;done) only[↓reduceIte,go_sem,e2,e4,e21,e22,au (show¬(k:Int)<(l.length:Nat) by omega),S.at,S.2.1,R.2.1,R.2.2.1,<-hh9,RH.at,RH.2.1]
  exact hK
 obtain⟨y,hy⟩:=uu hlt
 have hy0:=hls y (aI hy)
 obtain⟨pb,po,rfl,hpb,hpu,hpz,hpr⟩:=(iv.mono st.ge).row k y hy
 obtain⟨yb,yn⟩:=y
 rw[vY]at hpr
 simp only[Iw,qX,aG,aP]at hpr hpu hpz
 simp only at hy0
 obtain⟨p0,p1'⟩:=hpr
 obtain⟨h5',h6,u6,hh5,hh6,B5,B6,s6,hz6⟩:=kZ u' h' [.bool false,.int .i64 0] [.bool yb,.int .i64 yn] 32 rfl
 have B51:=B5.1
 have B61:=B6.1
 obtain⟨bb,hbb⟩:=kJ h'.size
 rw[<-hbb]at B5 B51 B6 B61 hh6
 have R6:=R.sZ s6
 have S6:=S.sZ s6
 have o6:=ow.sZ s6
 have M6:=M.step s6 (λq=>q)
 have st6:=st.tZ s6
 have S61:=S6.1
 have hmlen:((l.take k).map (mW l)).length<=8:=by rw[aQ,aT];omega
 have hsn:(l.take (k+1)).map (mW l)=(l.take k).map (mW l)++[mW l (yb,yn)]:=by rw[aS,hy];simp
 have e20':σ 20= .slice (some ⟨pb,po,none⟩) l.length vc:=e20
 -- a cell is put behind
 have fin: ∀(σ'':lm) (u8:U) (h8 h9:H) (a8:Option Addr) (n8 c8 c9:Nat) (u7:U) (h7:H),σ'' 22= .int .i64 ((k:Int)+1)->(∀i,i<22->i≠6->i≠7->i≠8->i≠9->σ'' i=σ i)->kG S0 u h u7 h7->kV u7 h7 rb [.int .i64 0,.slice none 0 0]->kV u7 h7 sb [.int .i64 p,.slice xa ((l.take k).map (mW l)).length xc]->CY h7 mb (Bp l (k+1)) c9->mb<h7.size->mr sb u8 h8 (.slice a8 n8 c8) ((l.take k).map (mW l)++[mW l (yb,yn)])->kG (kN (.slice xa ((l.take k).map (mW l)).length xc)) u7 h7 u8 h8->(∀b,kN (.slice a8 n8 c8) b->kN (.slice xa ((l.take k).map (mW l)).length xc) b\/h7.size<=b)->h9=lh h8 sb 1 (.slice a8 n8 c8)-> ∃j,I j σ'' h9/\l.length - j<l.length - k:=by
  intro σ'' u8 h8 h9 a8 n8 c8 c9 u7 h7 g22 gσ st7 R7 S7 M7 hm7 o8 s8 hO8 hh9
  have S8:=S7.step s8 nx
  have s9:=kG.set (S:=λb=>b=sb) u8 h8 (b:=sb) (o:=1) (.slice a8 n8 c8) rfl (by rw[S8.2.2.2.1];exact az _)
  rw[<-hh9]at s9
  have ge8: ∀b,kN (.slice xa ((l.take k).map (mW l)).length xc) b->sb<=b:=λb q=>ow.ge q
  have n9: ¬kN (.slice a8 n8 c8) sb:=λq=>(hO8 _ q).elim nx λq=>by have:=S7.1;omega
  have n9': ¬kN (.slice a8 n8 c8) mb:=λq=>(hO8 _ q).elim nm λq=>by omega
  refine⟨k+1,?_,by omega⟩
  rw[hI]
  refine⟨u8,.slice a8 n8 c8,c9,(gσ 2 (by omega) (by omega) (by omega) (by omega) (by omega)).trans e2,(gσ 4 (by omega) (by omega) (by omega) (by omega) (by omega)).trans e4,(gσ 5 (by omega) (by omega) (by omega) (by omega) (by omega)).trans e5,(gσ 20 (by omega) (by omega) (by omega) (by omega) (by omega)).trans e20',(gσ 21 (by omega) (by omega) (by omega) (by omega) (by omega)).trans e21,by rw[g22];simp,hlt,(st7.own s8 λb q=>aY hsb0 (ge8 b q)).own s9 λb q=>by rw[q];exact hsb0,(R7.step s8 λq=>by have:=ge8 _ q;omega).step s9 λq=>by omega,?_,?_,n9,n9',(M7.step s8 nm).step s9 λq=>by omega⟩
  ·rw[hh9];exact S8.set (i:=1) (v:= .slice a8 n8 c8) (by simp)
  ·rw[hsn];exact o8.step s9 λb q e=>n9 (e▸q)
 cases yb with
 |false=>
  have hce:mW l (false,yn)=yn:=rfl
  have hfs:Bp l (k+1)=Bp l k:=funext λn=>by rw[DR hy,ah (λq=>by cases q.1)]
  simp(disch:=first|omega|simp only[zz];try omega;done) only[↓reduceIte,go_sem,e4,e20',e21,e22,af (show(k:Int)<(l.length:Nat) by omega),p0,p1',<-hbb,<-hh5,<-hh6,B5.2.1,B5.2.2.1,B6.at,B6.2.1,au (show¬yn<0 by omega),S6.at,S6.2.1]
  refine kK (by simp only[]) o6 (x:=mW l (false,yn)) (by rw[lD,hce]) rfl rfl (by omega) (by omega) λa8 n8 c8 u8 h8 o8 s8 hO8=>⟨kY,?_⟩
  have S8:=S6.step s8 nx
  have S81:=S8.1
  simp(disch:=first|omega|simp only[zz];try omega;done) only[↓reduceIte,go_sem,e4,e22,S8.2.1,S8.2.2.1]
  exact fin _ u8 h8 _ a8 n8 c8 c u6 h6 (by simp [kF]) (λi q1 q2 q3 q4 q5=>by simp only[kF];repeat rw[ah (by omega)]) st6 R6 S6 (by rw[hfs];exact M6) (by have:=s6.ge.sz;omega) o8 s8 hO8 rfl
 |true=>
  have hce:mW l (true,yn)= -1 - (mq l yn:Nat):=rfl
  simp(disch:=first|omega|simp only[zz];try omega;done) only[↓reduceIte,go_sem,e5,e20',e21,e22,af (show(k:Int)<(l.length:Nat) by omega),p0,p1',<-hbb,<-hh5,<-hh6,B5.2.1,B5.2.2.1,B6.at,B6.2.1]
  refine Vg M6 ⟨kY,?_⟩
  have hce2:(-1:Int) - (mq l yn:Nat)=mW l (true,yn):=hce.symm
  have hfl:mq l yn<l.length:=(xB (l:=l) (n:=yn) ⟨_,aI hy,rfl,rfl⟩).1
  by_cases hf:(l.take k).any (λt=>t.1 && decide (t.2=yn))=true
  case pos=>
   have hfs:Bp l (k+1)=Bp l k:=funext λn=>by
    rw[DR hy]
    split
    ·rename_i q
     rw[<-show yn=n from q.2,KR hf]
    ·rfl
   simp(disch:=first|omega|simp only[zz];try omega;done) only[↓reduceIte,go_sem,qD,KR hf,Option.isSome_some,fI,e4,S6.2.1,S6.at]
   refine kD ⟨rfl,_,rfl,Int.natCast_nonneg _,by omega,by simp(disch:=first|omega|simp only[zz];try omega;done) only[↓reduceIte,go_sem,e4,S6.2.1],?_⟩
   simp(disch:=first|omega|simp only[zz];try omega;done) only[↓reduceIte,go_sem,e4,S6.2.1]
   refine kK (by simp only[]) o6 (x:=mW l (true,yn)) (by rw[lD,hce]) rfl rfl (by omega) (by omega) λa8 n8 c8 u8 h8 o8 s8 hO8=>⟨kY,?_⟩
   have S8:=S6.step s8 nx
   have S81:=S8.1
   simp(disch:=first|omega|simp only[zz];try omega;done) only[↓reduceIte,go_sem,e4,e22,S8.2.1,S8.2.2.1]
   exact fin _ u8 h8 _ a8 n8 c8 c u6 h6 (by simp [kF]) (λi q1 q2 q3 q4 q5=>by simp only[kF];repeat rw[ah (by omega)]) st6 R6 S6 (by rw[hfs];exact M6) (by have:=s6.ge.sz;omega) o8 s8 hO8 rfl
  have hfk:=Uy hy hf
  have hpj:Oq (Bp l k) yn k=Bp l (k+1):=funext λn=>by
   rw[DR hy]
   unfold Oq
   by_cases q:n=yn
   ·rw[ay q,ay ⟨rfl,q.symm⟩,q,hfk]
   ·rw[ah q,ah (λz=>q z.2.symm)]
  simp(disch:=first|omega|simp only[zz];try omega;done) only[↓reduceIte,go_sem,qD,Yz hf,gY,jJ,e5,B6.at,B6.2.1]
  refine Vh u6 M6 λh7 s7 M7=>⟨kY,?_⟩
  rw[hpj]at M7
  have S7:=S6.step s7 (by omega)
  have S71:=S7.1
  have R7:=R6.step s7 (by omega)
  have o7:=o6.step s7 (λb q e=>nm (e▸q))
  simp(disch:=first|omega|simp only[zz];try omega;done) only[↓reduceIte,go_sem,e4,S7.2.1,S7.at]
  refine kD ⟨rfl,_,rfl,Int.natCast_nonneg _,by omega,by simp(disch:=first|omega|simp only[zz];try omega;done) only[↓reduceIte,go_sem,e4,S7.2.1],?_⟩
  simp(disch:=first|omega|simp only[zz];try omega;done) only[↓reduceIte,go_sem,e4,S7.2.1]
  refine kK (by simp only[]) o7 (x:=mW l (true,yn)) (by rw[lD,hce,hfk]) rfl rfl (by omega) (by omega) λa8 n8 c8 u8 h8 o8 s8 hO8=>⟨kY,?_⟩
  have S8:=S7.step s8 nx
  have S81:=S8.1
  simp(disch:=first|omega|simp only[zz];try omega;done) only[↓reduceIte,go_sem,e4,e22,S8.2.1,S8.2.2.1]
  exact fin _ u8 h8 _ a8 n8 c8 _ u6 h7 (by simp [kF]) (λi q1 q2 q3 q4 q5=>by simp only[kF];repeat rw[ah (by omega)]) (st6.own s7 λb q=>by omega) R7 S7 M7 (by have:=s7.ge.sz;have:=s6.ge.sz;omega) o8 s8 hO8 rfl
end Go.Proofs.Z
namespace Edict
open Go.Ev
abbrev Nr:={n:lG // wz n}
def DN(A:List lY)(s:lY):List lY:=if s∈A then A else A++[s]
def wu(N:List lG):Nr->Option Int:=λn=>if n.1∈N/\n.1≠mR then some ((sQ N n.1:Nat):Int)else none
theorem Uw{A:List lY}{s:lY}{k:Nat}(h:A[k]? =some s)(hn: ∀j,j<k->A[j]? ≠some s):ut A s=k:=by
 obtain⟨h1,h2⟩:=ug (aI h)
 rcases Nat.lt_trichotomy (ut A s) k with q|q|q
 ·exact absurd h2 (hn _ q)
 ·exact q
 ·have:=gm (p:=λx:lY=>decide (x=s)) (xs:=A) (i:=k) q
  obtain⟨hi,e⟩:=aJ.1 h
  simp [e]at this
theorem abE{A:List lY}{s:lY}(h:s ∉ A):ut (A++[s]) s=A.length:=by
 unfold ut
 rw[eF,ah]
 ·simp
 ·intro q
  obtain⟨y,hy,hy2⟩:=fZ.1 q
  simp only[bf]at hy2
  exact h (hy2▸hy)
end Edict
namespace Go.Ev
open Go Rep Edict
theorem Ae{u:U}{h:H}{x:lY}{cs:List Value}:rep u h x cs=(∃v,cs=[.int .i64 x.1,v]/\kM u h v x.2):=by
 apply propext
 simp only[mO,qi,lD]
 constructor
 ·rintro ⟨_,_,rfl,rfl,v,rfl,i⟩
  exact⟨v,rfl,i⟩
 ·rintro ⟨v,rfl,i⟩
  exact⟨_,_,rfl,rfl,v,rfl,i⟩
theorem Ig:sz lY=2:=rfl
def kE(n:Nr):Value:= .agg (tu n.1).toArray
theorem Ns(a b:Nr)(h:kE a=kE b):a=b:=by
 unfold kE at h
 have h2:(tu a.1).toArray=(tu b.1).toArray:=by injection h
 exact Subtype.ext (abI a.2 b.2 (by have:=bL Array.toList h2;simpa using this))
structure Mk (k0:Nat) (u:U) (h:H) (mb pb:Nat) (va vn ve:Value) (A:List lY) (N:List lG) (E:List Int) (m:Nr->Option Int) (c:Nat):Prop where
 B:kV u h mb [va,vn,ve,.map (some pb)]
 mb0:k0<=mb
 pb0:k0<=pb
 ne:pb≠mb
 a:mr k0 u h va A
 n:mr k0 u h vn N
 e:mr k0 u h ve E
 ap:Ap h [mb,pb] [va,vn,ve]
 M:Fv Zm kE h pb m c
def Sv(mb pb:Nat)(va vn ve:Value)(b:Nat):Prop:=b=mb\/b=pb\/kN va b\/kN vn b\/kN ve b
section
variable {k0 mb pb c:Nat} {u u':U} {h h':H} {va vn ve w:Value} {A:List lY} {N:List lG} {E:List Int} {m:Nr->Option Int}
theorem Mk.sZ(d:Mk k0 u h mb pb va vn ve A N E m c)(s:kG S0 u h u' h'):Mk k0 u' h' mb pb va vn ve A N E m c:=
 ⟨d.B.sZ s,d.mb0,d.pb0,d.ne,d.a.sZ s,d.n.sZ s,d.e.sZ s,d.ap.mono s.ge.sz,d.M.step s λq=>q⟩
theorem Mk.lt(d:Mk k0 u h mb pb va vn ve A N E m c){b:Nat}(q:Sv mb pb va vn ve b):k0<=b/\b<h.size:=by
 rcases q with rfl|rfl|q|q|q
 ·exact⟨d.mb0,d.B.1⟩
 ·exact⟨d.pb0,d.M.lt⟩
 ·exact⟨d.a.ge q,d.a.lt q⟩
 ·exact⟨d.n.ge q,d.n.lt q⟩
 ·exact⟨d.e.ge q,d.e.lt q⟩
theorem Mk.setA(d:Mk k0 u h mb pb va vn ve A N E m c){l:List lY}(o:mr k0 u' h' w l)(s:kG (kN va) u h u' h')(hO: ∀b,kN w b->kN va b\/h.size<=b):
  kV u' h' mb [va,vn,ve,.map (some pb)]/\Mk k0 u' (lh h' mb 0 w) mb pb w vn ve l N E m c/\kG (Sv mb pb va vn ve) u h u' (lh h' mb 0 w):=by
 have a:=d.ap
 have B':=d.B.step s (a.no va (by simp) mb (by simp))
 have t:=kG.set (S:=λb=>b=mb) u' h' (b:=mb) (o:=0) w rfl (by rw[B'.2.2.2.1];exact az _)
 have a':=a.set (i:=0) (v':=w) (h':=h') rfl hO (λb q=>o.lt q) s.ge.sz
 have st:=(s.mono (S':=λb=>b=mb\/kN va b) λb _ q=> .inr q).trans t λb _ q=> .inl q
 refine⟨B',⟨B'.set (i:=0) (v:=w) (by simp),d.mb0,d.pb0,d.ne,o.step t λb q e=> ?_,(d.n.step s λb q q'=>a.apt 1 0 _ _ rfl rfl (by decide) b q q').step t λb q e=> ?_,(d.e.step s λb q q'=>a.apt 2 0 _ _ rfl rfl (by decide) b q q').step t λb q e=> ?_,a'.mono (by rw[qz];exact aH _),(d.M.step s λq=>a.no va (by simp) pb (by simp) q).step t d.ne⟩,st.mono λb _ q=> ?_⟩
 ·exact a'.no w (by simp) mb (by simp) (e▸q)
 ·exact a.no vn (by simp) mb (by simp) (e▸q)
 ·exact a.no ve (by simp) mb (by simp) (e▸q)
 ·exact q.elim .inl λq=> .inr (.inr (.inl q))
theorem Mk.setN(d:Mk k0 u h mb pb va vn ve A N E m c){l:List lG}(o:mr k0 u' h' w l)(s:kG (kN vn) u h u' h')(hO: ∀b,kN w b->kN vn b\/h.size<=b):
  kV u' h' mb [va,vn,ve,.map (some pb)]/\Mk k0 u' (lh h' mb 1 w) mb pb va w ve A l E m c/\kG (Sv mb pb va vn ve) u h u' (lh h' mb 1 w):=by
 have a:=d.ap
 have B':=d.B.step s (a.no vn (by simp) mb (by simp))
 have t:=kG.set (S:=λb=>b=mb) u' h' (b:=mb) (o:=1) w rfl (by rw[B'.2.2.2.1];exact az _)
 have a':=a.set (i:=1) (v':=w) (h':=h') rfl hO (λb q=>o.lt q) s.ge.sz
 have st:=(s.mono (S':=λb=>b=mb\/kN vn b) λb _ q=> .inr q).trans t λb _ q=> .inl q
 refine⟨B',⟨B'.set (i:=1) (v:=w) (by simp),d.mb0,d.pb0,d.ne,(d.a.step s λb q q'=>a.apt 0 1 _ _ rfl rfl (by decide) b q q').step t λb q e=> ?_,o.step t λb q e=> ?_,(d.e.step s λb q q'=>a.apt 2 1 _ _ rfl rfl (by decide) b q q').step t λb q e=> ?_,a'.mono (by rw[qz];exact aH _),(d.M.step s λq=>a.no vn (by simp) pb (by simp) q).step t d.ne⟩,st.mono λb _ q=> ?_⟩
 ·exact a.no va (by simp) mb (by simp) (e▸q)
 ·exact a'.no w (by simp) mb (by simp) (e▸q)
 ·exact a.no ve (by simp) mb (by simp) (e▸q)
 ·exact q.elim .inl λq=> .inr (.inr (.inr (.inl q)))
theorem Mk.setE(d:Mk k0 u h mb pb va vn ve A N E m c){l:List Int}(o:mr k0 u' h' w l)(s:kG (kN ve) u h u' h')(hO: ∀b,kN w b->kN ve b\/h.size<=b):
  kV u' h' mb [va,vn,ve,.map (some pb)]/\Mk k0 u' (lh h' mb 2 w) mb pb va vn w A N l m c/\kG (Sv mb pb va vn ve) u h u' (lh h' mb 2 w):=by
 have a:=d.ap
 have B':=d.B.step s (a.no ve (by simp) mb (by simp))
 have t:=kG.set (S:=λb=>b=mb) u' h' (b:=mb) (o:=2) w rfl (by rw[B'.2.2.2.1];exact az _)
 have a':=a.set (i:=2) (v':=w) (h':=h') rfl hO (λb q=>o.lt q) s.ge.sz
 have st:=(s.mono (S':=λb=>b=mb\/kN ve b) λb _ q=> .inr q).trans t λb _ q=> .inl q
 refine⟨B',⟨B'.set (i:=2) (v:=w) (by simp),d.mb0,d.pb0,d.ne,(d.a.step s λb q q'=>a.apt 0 2 _ _ rfl rfl (by decide) b q q').step t λb q e=> ?_,(d.n.step s λb q q'=>a.apt 1 2 _ _ rfl rfl (by decide) b q q').step t λb q e=> ?_,o.step t λb q e=> ?_,a'.mono (by rw[qz];exact aH _),(d.M.step s λq=>a.no ve (by simp) pb (by simp) q).step t d.ne⟩,st.mono λb _ q=> ?_⟩
 ·exact a.no va (by simp) mb (by simp) (e▸q)
 ·exact a.no vn (by simp) mb (by simp) (e▸q)
 ·exact a'.no w (by simp) mb (by simp) (e▸q)
 ·exact q.elim .inl λq=> .inr (.inr (.inr (.inr q)))
theorem Mk.setM(d:Mk k0 u h mb pb va vn ve A N E m c){m':Nr->Option Int}{c':Nat}(s:kG (λb=>b=pb) u h u' h')(M:Fv Zm kE h' pb m' c'):
  Mk k0 u' h' mb pb va vn ve A N E m' c'/\kG (Sv mb pb va vn ve) u h u' h':=by
 have a:=d.ap
 refine⟨⟨d.B.step s λe=>d.ne e.symm,d.mb0,d.pb0,d.ne,d.a.step s λb q e=> ?_,d.n.step s λb q e=> ?_,d.e.step s λb q e=> ?_,a.mono s.ge.sz,M⟩,s.mono λb _ q=> .inr (.inl q)⟩
 ·exact a.no va (by simp) pb (by simp) (e▸q)
 ·exact a.no vn (by simp) pb (by simp) (e▸q)
 ·exact a.no ve (by simp) pb (by simp) (e▸q)
end
end Go.Ev
namespace Go.Proofs.Z
open Go Go.Ev Edict
def QM(vs:List Value)(h:H)(K:Value->H->Prop):Prop:= ∃(u:U) (k0 mb pb c:Nat) (va vn ve v:Value) (A:List lY) (N:List lG) (E:List Int) (m:Nr->Option Int) (p:pK),vs=[.pointer (some ⟨mb,0,none⟩),.agg #[.int .i64 p.1,v]]/\kM u h v p.2/\sN p/\k0<=h.size/\Mk k0 u h mb pb va vn ve A N E m c/\A.length<=2000000/\(∀s∈A,s.2.length<=8)/\
 ∀u' h' va',Mk k0 u' h' mb pb va' vn ve (DN A (lJ p)) N E m c->kG (Sv mb pb va vn ve) u h u' h'->(∀b,kN va' b->kN va b\/h.size<=b)->K (.int .i64 (ut (DN A (lJ p)) (lJ p):Nat)) h'
def Ux:mG:=λf vs h K _=>(f=77/\WF vs h K)\/(f=71/\abG vs h K)
theorem Jy:nz Tryz.prog Ux:=mK Uz (qd Ii)
theorem QN{vs:List Value}{h:H}{K:Value->H->Prop}{KP:List PanicEntry->H->Prop}(hC:QM vs h K):ma Tryz.prog 46 vs h K KP:=by
 obtain⟨u,k0,mb,pb,c,va,vn,ve,v,A,N,E,m,p,rfl,iv,hpw,hk0,D,hA2,hA8,hK⟩:=hC
 refine kP 4295213307 [(none,(.t 4))] Jy Tryz.func46 (by kernel_rfl) (by conv=>lhs;cbv;try simp only[mF]) ?_
 obtain⟨vx,vc,rfl,-,-⟩:=iv.sl
 obtain⟨ax,ac,rfl,-,-⟩:=D.a.sl
 obtain⟨h1,u1,hh1,zh1,p1,A1⟩:=kL u h [.int .i64 p.1,.slice vx p.2.length vc] 59
 have A11:=A1.1
 have D1:=D.sZ p1
 simp(disch:=first|omega|simp only[zz];try omega;done) only[↓reduceIte,go_sem,<-hh1,A1.at,A1.2.1]
 refine kD (.inl ⟨rfl,u1,p,_,rfl,iv.mono p1.ge,hpw,λu2 h2 w p2 iw=>⟨kY,?_⟩⟩)
 obtain⟨s,hs⟩:=kJ (lJ p)
 have hs1:p.1=s.1:=by rw[hs];rfl
 have hs8:s.2.length<=8:=by rw[hs];unfold lJ;rw[aQ];exact hpw.2.1
 rw[<-hs]at iw hK
 rw[hs1]
 obtain⟨wx,wc,rfl,-,-⟩:=iw.sl
 have D2:=D1.sZ p2
 obtain⟨h3',h3,u3,hh3',hh3,B3',B3,s3,hz3⟩:=kZ u2 h2 [.int .i64 0,.slice none 0 0] [.int .i64 s.1,.slice wx s.2.length wc] 165 rfl
 obtain⟨sb,hsb⟩:=kJ h2.size
 rw[<-hsb]at B3' B3 hh3
 have D3:=D2.sZ s3
 have B31:=B3.1
 have B3'1:=B3'.1
 have D31:=D3.B.1
 have st3:=(p1.tZ p2).tZ s3
 have hsb0:h.size<=sb:=by have:=p1.ge.sz;have:=p2.ge.sz;omega
 have iw3:=iw.mono s3.ge
 simp(disch:=first|omega|simp only[zz];try omega;done) only[↓reduceIte,go_sem,<-hsb,<-hh3',B3'.2.1,B3'.2.2.1,<-hh3,D3.B.2.1,D3.B.at]
 obtain⟨I,hI⟩:=kJ (α:=Nat->lm->H->Prop) λk σ h'=> ∃(u':U),σ 0= .pointer (some ⟨mb,0,none⟩)/\σ 5= .pointer (some ⟨sb,0,none⟩)/\σ 14= .slice ax A.length ac/\σ 15= .int .i64 (A.length:Nat)/\σ 16= .int .i64 k/\k<=A.length/\kG S0 u h u' h'/\kV u' h' sb [.int .i64 s.1,.slice wx s.2.length wc]/\kM u' h' (.slice wx s.2.length wc) s.2/\Mk k0 u' h' mb pb (.slice ax A.length ac) vn ve A N E m c/\ ∀j,j<k->A[j]? ≠some s
 refine kH I (λj=>A.length - j) 0 (by rw[hI];exact⟨u3,by simp [kF],by simp [kF],by simp [kF],by simp [kF],by simp [kF],by omega,st3,B3,iw3,D3,λj hj=>by omega⟩) ?_
 clear hh1 hh3 hh3' B3 B3' A1 D1 D2 D3 iw3
 intro k σ h' hi
 rw[hI]at hi
 obtain⟨u',e0,e5,e14,e15,e16,hk,st,B,iw',D',hno⟩:=hi
 have B0:=B.1
 have D0:=D'.B.1
 by_cases hlt:k<A.length
 case neg=>
  have hnew:s ∉ A:=λq=>by
   obtain⟨j,hj⟩:=dW q
   exact hno j (by have:=(aJ.1 hj).1;omega) hj
  have hadd:DN A s=A++[s]:=ah hnew
  rw[hadd,abE hnew]at hK
  simp(disch:=first|omega|simp only[zz];try omega;done) only[↓reduceIte,go_sem,e0,e5,e15,e16,au (show¬(k:Int)<(A.length:Nat) by omega),D'.B.2.1,D'.B.at,B.at,B.2.1]
  refine kK (by simp only[]) D'.a (x:=s) (by rw[Ae];exact⟨_,rfl,iw'⟩) rfl rfl (by have:=st.ge.sz;omega) (by omega) λa8 n8 c8 u8 h8 o8 s8 hO8=>⟨kY,?_⟩
  obtain⟨B9,D9,s9⟩:=D'.setA o8 s8 hO8
  have hn8:n8=A.length+1:=by obtain⟨_,_,e,-,-⟩:=o8.sl;cases e;simp
  obtain⟨h9,hh9⟩:=kJ (lh h8 mb 0 (.slice a8 n8 c8))
  rw[<-hh9]at D9 s9
  have hK:=hK _ _ _ D9 ((st.mono λb _ q=>q.elim).trans s9 λb _ q=>q) λb q=>(hO8 b q).imp id λq=>by have:=st.ge.sz;omega
  have D91:=D9.B.1
  subst hn8
  simp(disch:=first|omega|simp only[zz];try omega;done) only[↓reduceIte,go_sem,e0,B9.2.1,B9.2.2.1,<-hh9,D9.B.at,D9.B.2.1]
  have e1:((A.length+1:Nat):Int) - 1=(A.length:Nat):=by omega
  rw[e1]
  exact hK
 obtain⟨y,hy⟩:=uu hlt
 obtain⟨pb',po,rfl,hpb,hpu,hpz,hpr⟩:=D'.a.iZ.row k y hy
 rw[Ae]at hpr
 simp only[Ig,qX,aG,aP]at hpr hpu hpz
 obtain⟨yv,⟨q0,q1⟩,iy⟩:=hpr
 obtain⟨yx,yc,rfl,-,-⟩:=iy.sl
 obtain⟨h5',h6,u6,hh5,hh6,B5,B6,s6,hz6⟩:=kZ u' h' [.int .i64 0,.slice none 0 0] [.int .i64 y.1,.slice yx y.2.length yc] 165 rfl
 have B51:=B5.1
 have B61:=B6.1
 obtain⟨bb,hbb⟩:=kJ h'.size
 rw[<-hbb]at B5 B51 B6 B61 hh6
 have B':=B.sZ s6
 have B'1:=B'.1
 have D6:=D'.sZ s6
 have st6:=st.tZ s6
 have iy6:=iy.mono s6.ge
 have iw6:=iw'.mono s6.ge
 have e14':σ 14= .slice (some ⟨pb',po,none⟩) A.length ac:=e14
 have go: ∀(σ'':lm),y≠s->σ'' 16= .int .i64 ((k:Int)+1)->(∀i,i<16->i≠6->i≠7->σ'' i=σ i)-> ∃j,I j σ'' h6/\A.length - j<A.length - k:=by
  intro σ'' hne g16 gσ
  refine⟨k+1,?_,by omega⟩
  rw[hI]
  exact⟨u6,(gσ 0 (by omega) (by omega) (by omega)).trans e0,(gσ 5 (by omega) (by omega) (by omega)).trans e5,(gσ 14 (by omega) (by omega) (by omega)).trans e14',(gσ 15 (by omega) (by omega) (by omega)).trans e15,by rw[g16];simp,hlt,st6,B',iw6,D6,λj hj=>by
   by_cases hjk:j=k
   ·rw[hjk,hy];exact λe=>hne (bu e)
   ·exact hno j (by omega)⟩
 by_cases h1:y.1=s.1
 ·rw[h1]at q0 hh6 B6
  simp(disch:=first|omega|simp only[zz];try omega;done) only[↓reduceIte,go_sem,e5,e14',e15,e16,af (show(k:Int)<(A.length:Nat) by omega),q0,q1,<-hbb,<-hh5,<-hh6,B5.2.1,B5.2.2.1,B6.at,B6.2.1,B'.at,B'.2.1]
  refine kD (.inr ⟨rfl,u6,_,_,y.2,s.2,rfl,iy6,iw6,by have:=hA8 y (aI hy);omega,by simp(disch:=first|omega|simp only[zz];try omega;done) only[↓reduceIte,go_sem,Vs],?_⟩)
  by_cases h2:y.2=s.2
  ·have hys:y=s:=Prod.ext h1 h2
   rw[hys]at hy
   have hmem:s∈A:=aI hy
   have hadd:DN A s=A:=ay hmem
   rw[hadd,Uw hy hno]at hK
   have hK:=hK _ _ _ D6 (st6.mono λb _ q=>q.elim) λb q=> .inl q
   simp(disch:=first|omega|simp only[zz];try omega;done) only[↓reduceIte,go_sem,h2]
   exact hK
  ·simp(disch:=first|omega|simp only[zz];try omega;done) only[↓reduceIte,go_sem,au h2,e16]
   exact go _ (λe=>h2 (by rw[e])) (by simp [kF]) (λi q1 q2 q3=>by simp only[kF];repeat rw[ah (by omega)])
 ·simp(disch:=first|omega|simp only[zz];try omega;done) only[↓reduceIte,go_sem,e5,e14',e15,e16,af (show(k:Int)<(A.length:Nat) by omega),q0,q1,<-hbb,<-hh5,<-hh6,B5.2.1,B5.2.2.1,B6.at,B6.2.1,B'.at,B'.2.1,au h1]
  exact go _ (λe=>h1 (by rw[e])) (by simp [kF]) (λi q1 q2 q3=>by simp only[kF];repeat rw[ah (by omega)])
end Go.Proofs.Z
namespace Edict
open Go.Ev
theorem abC{N M:List lG}{n:lG}(h:n∈N):sQ (N++M) n=sQ N n:=by
 have q:=(Xj h).1
 unfold sQ at q ⊢
 rw[eF,ay q]
theorem QK{N:List lG}{n:lG}(hf:wz n)(hn:n ∉ N)(hr:n≠mR):Ot (wu N) ⟨n,hf⟩ (N.length:Nat)=wu (N++[n]):=funext λt=>by
 unfold Ot wu
 by_cases q:t=⟨n,hf⟩
 ·subst q
  rw[ay rfl,ay ⟨by simp,hr⟩]
  have:sQ (N++[n]) n=N.length:=by
   unfold sQ
   rw[eF,ah]
   ·simp
   ·intro q
    obtain⟨y,hy,hy2⟩:=fZ.1 q
    simp only[bf]at hy2
    exact hn (hy2▸hy)
  simp only[this]
 ·rw[ah q]
  have hne:t.1≠n:=λe=>q (Subtype.ext e)
  by_cases ht:t.1∈N/\t.1≠mR
  ·rw[ay ht,ay ⟨by simp [ht.1],ht.2⟩,abC ht.1]
  ·rw[ah ht,ah]
   intro z
   refine ht ⟨?_,z.2⟩
   rcases bG.1 z.1 with z|z
   ·exact z
   ·exact absurd (bJ.1 z) hne
end Edict
namespace Go.Proofs.Z
open Go Go.Ev Edict
def Uv(vs:List Value)(h:H)(K:Value->H->Prop):Prop:= ∃(u:U) (k0 mb pb c:Nat) (va vn ve v w:Value) (A:List lY) (N:List lG) (E:List Int) (n:lG),vs=[.pointer (some ⟨mb,0,none⟩),.agg (qM n v w).toArray]/\kM u h v n.2.2.2.1/\kM u h w n.2.2.2.2.1/\wz n/\n≠mR/\k0<=h.size/\Mk k0 u h mb pb va vn ve A N E (wu N) c/\N.length<=2000000/\
 ∀u' h' vn' c',Mk k0 u' h' mb pb va vn' ve A (wE N n) E (wu (wE N n)) c'->kG (Sv mb pb va vn ve) u h u' h'->(∀b,kN vn' b->kN vn b\/h.size<=b)->K (.int .i64 (sQ N n:Nat)) h'
def abD:mG:=λf vs h K _=>f=49/\Ih vs h K
theorem QL:nz Tryz.prog abD:=qd EE
theorem KQ{vs:List Value}{h:H}{K:Value->H->Prop}{KP:List PanicEntry->H->Prop}(hC:Uv vs h K):ma Tryz.prog 18 vs h K KP:=by
 obtain⟨u,k0,mb,pb,c,va,vn,ve,v,w,A,N,E,n,rfl,iv,iw,hf,hr,hk0,D,hN,hK⟩:=hC
 refine kP 8389051 [(none,(.t 4))] QL Tryz.func18 (by kernel_rfl) (by apply c0 rfl;repeat' first|apply cS|apply cK|apply cL|apply cX|(apply cC (by decide))|(conv=>lhs;cbv;try simp only[mF])) ?_
 obtain⟨nx,nc,rfl,-,-⟩:=D.n.sl
 obtain⟨h1,u1,hh1,zh1,p1,N1⟩:=kL u h (qM n v w) 36
 obtain⟨nb,hnb⟩:=kJ h.size
 rw[<-hnb]at N1
 have D1:=D.sZ p1
 have N11:=N1.1
 have ln:(qM n v w).length=11:=rfl
 have a11:=N1.all ln
 have hK35:=QO hf
 have okk:(tu n).all mg=true:=Ik
 obtain⟨vx,vc,rfl,-,-⟩:=iv.sl
 obtain⟨wx,wc,rfl,-,-⟩:=iw.sl
 have ok11:(qM n (.slice vx n.2.2.2.1.length vc) (.slice wx n.2.2.2.2.1.length wc)).all mg=true:=rfl
 simp(disch:=first|omega|simp only[zz];try omega;done) only[↓reduceIte,go_sem,<-hh1,<-hnb,a11,N1.2.1,ln]
 obtain⟨-,-,-,-,-,-,-,f8,f9,-,-⟩:=id hf
 refine kD ⟨rfl,u1,n,_,_,rfl,iv.mono p1.ge,iw.mono p1.ge,f8,f9,λu2 h2 p2=>⟨kY,?_⟩⟩
 have D2:=D1.sZ p2
 have N2:=N1.sZ p2
 obtain⟨h3',h3,u3,hh3',hh3,B3',B3,s3,hz3⟩:=kZ u2 h2 zK (tu n) 128 (by rw[hK35];rfl)
 obtain⟨bb,hbb⟩:=kJ h2.size
 rw[<-hbb]at B3' B3 hh3
 have D3:=D2.sZ s3
 have N3:=N2.sZ s3
 have st3:=(p1.tZ p2).tZ s3
 have a35:=B3.all hK35
 have b11:=N3.all ln
 have B31:=B3.1
 have B3'1:=B3'.1
 have D31:=D3.B.1
 simp only[zK]at hh3' B3'
 have iv3:=iv.mono st3.ge
 have iw3:=iw.mono st3.ge
 simp(disch:=first|omega|simp only[zz];try omega;done) only[↓reduceIte,go_sem,<-hbb,<-hh3',B3'.2.1,B3'.2.2.1,hK35,okk,<-hh3,D3.B.at,D3.B.2.1,a35,B3.2.1]
 refine Jj (ks:=Zm) (enc:=kE) (s:=⟨n,hf⟩) Ns (FK hf) D3.M ⟨(λp q=>nomatch q),?_⟩
 by_cases hin:n∈N
 ·have hm:wu N ⟨n,hf⟩=some ((sQ N n:Nat):Int):=ay ⟨hin,hr⟩
  have hadd:wE N n=N:=ay hin
  rw[hadd]at hK
  have hK:=hK _ _ _ _ D3 (st3.mono λb _ q=>q.elim) λb q=> .inl q
  simp(disch:=first|omega|simp only[zz];try omega;done) only[↓reduceIte,go_sem,qD,hm,Option.isSome_some,fI]
  exact hK
 have hm:wu N ⟨n,hf⟩=none:=ah λq=>hin q.1
 have hadd:wE N n=N++[n]:=ah hin
 rw[hadd,Xk hin]at hK
 simp(disch:=first|omega|simp only[zz];try omega;done) only[↓reduceIte,go_sem,qD,hm,gY,jJ,D3.B.at,D3.B.2.1,b11,N3.2.1,ln]
 refine kK (by simp only[]) D3.n (x:=n) (by rw[oL];exact⟨_,_,rfl,iv3,iw3⟩) rfl rfl (by have:=st3.ge.sz;omega) (by omega) λa8 n8 c8 u8 h8 o8 s8 hO8=>⟨kY,?_⟩
 obtain⟨B9,D9,s9⟩:=D3.setN o8 s8 hO8
 have hn8:n8=N.length+1:=by obtain⟨_,_,e,-,-⟩:=o8.sl;cases e;simp
 have hbb0:h.size<=bb:=by have:=p1.ge.sz;have:=p2.ge.sz;omega
 have hmb0:=D.B.1
 have K8:=B3.step s8 λq=>by have:=D.n.lt q;omega
 have K9:=K8.step (kG.set (S:=λb=>b=mb) u8 h8 (b:=mb) (o:=1) (.slice a8 n8 c8) rfl (by rw[B9.2.2.2.1];exact az _)) λe=>by omega
 obtain⟨h9,hh9⟩:=kJ (lh h8 mb 1 (.slice a8 n8 c8))
 rw[<-hh9]at D9 s9 K9
 have a9:=K9.all hK35
 have K91:=K9.1
 have D91:=D9.B.1
 subst hn8
 simp(disch:=first|omega|simp only[zz];try omega;done) only[↓reduceIte,go_sem,B9.2.1,B9.2.2.1,<-hh9,D9.B.at,D9.B.2.1,K9.2.1,hK35,a9]
 have e1:((N.length+1:Nat):Int) - 1=(N.length:Nat):=by omega
 simp only[e1]
 refine Jk (ks:=Zm) (enc:=kE) (s:=⟨n,hf⟩) u8 Ns (FK hf) D9.M λh10 s10 M10=>⟨(λp q=>nomatch q),?_⟩
 rw[QK hf hin hr]at M10
 obtain⟨D10,s10'⟩:=D9.setM s10 M10
 have D101:=D10.B.1
 have hK:=hK _ _ _ _ D10 (((st3.mono λb _ q=>q.elim).trans s9 λb _ q=>q).trans s10' λb hb q=>by
  rcases q with q|q|q|q|q
  ·exact .inl q
  ·exact .inr (.inl q)
  ·exact .inr (.inr (.inl q))
  ·exact .inr (.inr (.inr (.inl ((hO8 b q).resolve_right λq=>by have:=st3.ge.sz;omega))))
  ·exact .inr (.inr (.inr (.inr q)))) λb q=>(hO8 b q).imp id λq=>by have:=st3.ge.sz;omega
 simp(disch:=first|omega|simp only[zz];try omega;done) only[↓reduceIte,go_sem,D10.B.at,D10.B.2.1,e1]
 exact hK
end Go.Proofs.Z
namespace Edict
open Go.Ev
theorem vW{w:Int}{l:List pW}{s:pW}: ∀{m:List pW} {i:Nat},oh w l i (m++[s])=oh w l i m++if CW l (i+m.length) s=true/\s.2<w then [(((i+m.length:Nat):Int),s.2)]else []
 |[],i=>by simp only[bI,oh,bg,dO]
 |t::m,i=>by
  have e:i+(t::m).length=i+1+m.length:=by rw[aM];omega
  rw[bO,oh,oh,vW,e]
  split<;>simp
theorem Ac{w:Int}{l:List pW}{s:pW}: ∀{m:List pW} {i:Nat},qI w l i (m++[s])=qI w l i m++if CW l (i+m.length) s=true/\ ¬s.2<w then [((i+m.length:Nat):Int)]else []
 |[],i=>by simp only[bI,qI,bg,dO]
 |t::m,i=>by
  have e:i+(t::m).length=i+1+m.length:=by rw[aM];omega
  rw[bO,qI,qI,Ac,e]
  split<;>simp
theorem xx{w:Int}{l:List pW}: ∀{m:List pW} {i:Nat},(oh w l i m).length<=m.length
 |[],i=>aH _
 |t::m,i=>by have:= @xx w l m (i+1);unfold oh;split<;>simp<;>omega
theorem Ad{w:Int}{l:List pW}: ∀{m:List pW} {i:Nat},(qI w l i m).length<=m.length
 |[],i=>aH _
 |t::m,i=>by have:= @Ad w l m (i+1);unfold qI;split<;>simp<;>omega
theorem QJ{l:List pW}{i:Nat}{s:pW}(h:l[i]? =some s)(hv:s.1=true):(Nu (λt=>t.1 && decide (t.2=s.2)) l=(i:Int))↔CW l i s=true:=by
 have ha:l.any (λt=>t.1 && decide (t.2=s.2))=true:=fK.2 ⟨s,aI h,by simp [hv]⟩
 unfold Nu CW mq
 rw[ay ha,hv,fu,bf]
 omega
theorem WC{A:List lY}{ui:Nat}{w:Int}{k:Int}{p:pK}(hk:k=1\/k=3)(hp:sN p)(hA:A.length<=3000000)(hm:ut A (lJ p)<=A.length)(hu:ui<=2000000)(h0:0<=w)(h1:w<=16):wz (vC A ui w (k,p,oQ))/\vC A ui w (k,p,oQ)≠mR:=by
 have e:vC A ui w (k,p,oQ)=(k,(ui:Int),(ut A (lJ p):Int),ou w p.2,qA w p.2,oQ,w+(qA w p.2).length):=ah (by show¬k=2;omega)
 have hn:= @Ad w p.2 p.2 0
 have hl:= @xx w p.2 p.2 0
 have h8:=hp.2.1
 rw[e]
 refine⟨⟨⟨by show _<=k;omega,by show k<=_;omega⟩,⟨by show(_:Int)<=(ui:Int);omega,by show(ui:Int)<=_;omega⟩,⟨by show(_:Int)<=(ut A (lJ p):Int);omega,by show(ut A (lJ p):Int)<=_;omega⟩,show pJ 0 from⟨by decide,by decide⟩,show pJ 0 from⟨by decide,by decide⟩,show pJ 0 from⟨by decide,by decide⟩,⟨by show _<=w+((qA w p.2).length:Int);omega,?_⟩,aY hl h8,aY hn h8,λq hq=> ?_,λx hx=> ?_⟩,λq=> ?_⟩
 ·show w+((qA w p.2).length:Int)<=_
  have:(qA w p.2).length<=p.2.length:=hn
  omega
 ·obtain⟨a,b⟩:=q
  obtain⟨j,s,q1,q2,q3,q4,q5⟩:=tC.1 (show(a,b)∈oh w p.2 0 p.2 from hq)
  have hj:=(aJ.1 q1).1
  have:=hp.2.2 s (aI q1)
  exact⟨⟨by show _<=a;omega,by show a<=_;omega⟩,⟨by show _<=b;omega,by show b<=_;omega⟩⟩
 ·obtain⟨j,s,q1,q2,q3,q4⟩:=Ai.1 (show x∈qI w p.2 0 p.2 from hx)
  have hj:=(aJ.1 q1).1
  exact⟨by omega,by omega⟩
 ·have:=bL (λx:lG=>x.1) q
  simp only[mR]at this
  omega
end Edict
namespace Go.Proofs.Z
open Go Go.Ev Edict
def WE(vs:List Value)(h:H)(K:Value->H->Prop):Prop:= ∃(u:U) (k0 mb pb c ui:Nat) (va vn ve v:Value) (A:List lY) (N:List lG) (E:List Int) (k w:Int) (p:pK),vs=[.pointer (some ⟨mb,0,none⟩),.int .i64 k,.int .i64 ui,.agg #[.int .i64 p.1,v]]/\kM u h v p.2/\sN p/\k0<=h.size/\Mk k0 u h mb pb va vn ve A N E (wu N) c/\A.length<=2000000/\(∀s∈A,s.2.length<=8)/\N.length<=2000000/\(k=1\/k=3)/\ui<N.length/\w=wd N ui/\0<=w/\w<=16/\
 ∀u' h' va' vn' c',Mk k0 u' h' mb pb va' vn' ve (DN A (lJ p)) (wE N (vC (DN A (lJ p)) ui w (k,p,oQ))) E (wu (wE N (vC (DN A (lJ p)) ui w (k,p,oQ)))) c'->kG (Sv mb pb va vn ve) u h u' h'->(∀b,Sv mb pb va' vn' ve b->Sv mb pb va vn ve b\/h.size<=b)->K (.int .i64 (sQ N (vC (DN A (lJ p)) ui w (k,p,oQ)):Nat)) h'
def adV:mG:=λf vs h K _=>(f=46/\QM vs h K)\/(f=18/\Uv vs h K)\/(f=47/\abN vs h K)
theorem Uu:nz Tryz.prog adV:=mK QN (mK KQ (qd Il))
theorem Nq{vs:List Value}{h:H}{K:Value->H->Prop}{KP:List PanicEntry->H->Prop}(hC:WE vs h K):ma Tryz.prog 17 vs h K KP:=by
 obtain⟨u,k0,mb,pb,c,ui,va,vn,ve,v,A,N,E,kd,w,p,rfl,iv,hpw,hk0,D,hA2,hA8,hN,hkd,hui,hw,hw0,hw16,hK⟩:=hC
 refine kP 144678154135420815 [(none,(.t 8))] Uu Tryz.func17 (by kernel_rfl) (by conv=>lhs;cbv;try simp only[mF]) ?_
 obtain⟨vx,vc,rfl,-,-⟩:=iv.sl
 obtain⟨nx,nc,rfl,-,-⟩:=D.n.sl
 obtain⟨h1,u1,hh1,zh1,p1,A1⟩:=kL u h [.int .i64 p.1,.slice vx p.2.length vc] 59
 obtain⟨ab,hab⟩:=kJ h.size
 rw[<-hab]at A1
 have A11:=A1.1
 have D1:=D.sZ p1
 have D11:=D1.B.1
 obtain⟨x,hx⟩:=uu hui
 have hxw:x.2.2.2.2.2.2=w:=by rw[hw,zI hx]
 obtain⟨qb,qo,rfl,hqb,hqu,hqz,hqr⟩:=D1.n.iZ.row ui x hx
 rw[oL]at hqr
 obtain⟨xv,xw,hqr,-,-⟩:=hqr
 simp only[rF,qR,aG,aP]at hqr hqu hqz
 obtain⟨-,-,-,-,-,-,-,-,-,-,q10⟩:=hqr
 rw[hxw]at q10
 simp(disch:=first|omega|simp only[zz];try omega;done) only[↓reduceIte,go_sem,<-hh1,<-hab,D1.B.at,D1.B.2.1,af (show(0:Int)<=(ui:Int) by omega),af (show(ui:Int)<(N.length:Nat) by omega),q10,A1.at,A1.2.1]
 refine kD (.inl ⟨rfl,u1,k0,mb,pb,c,_,_,_,_,A,N,E,wu N,p,rfl,iv.mono p1.ge,hpw,by have:=p1.ge.sz;omega,D1,hA2,hA8,λu2 h2 va2 D2 p2 g2=>⟨(λp q=>nomatch q),?_⟩⟩)
 have nab: ¬Sv mb pb va (.slice (some ⟨qb,qo,none⟩) N.length nc) ve ab:=λq=>by have:=(D.lt q).2;omega
 have A2:=A1.step p2 nab
 obtain⟨A',hA'⟩:=kJ (DN A (lJ p))
 obtain⟨mi,hmi⟩:=kJ (α:=Nat) (ut A' (lJ p))
 rw[<-hA']at D2 hK
 rw[<-hA',<-hmi]
 have hne:kd≠2:=by omega
 have en:vC A' ui w (kd,p,oQ)=(kd,(ui:Int),(mi:Int),ou w p.2,qA w p.2,oQ,w+(qA w p.2).length):=by rw[hmi];exact ah hne
 have hmem:lJ p∈A':=by rw[hA'];unfold DN;split;assumption;simp
 have hmi2:mi<A'.length:=by rw[hmi];exact(ug hmem).1
 have hA3:A'.length<=3000000:=by
  rw[hA']
  unfold DN;split
  ·omega
  ·rw[aN,bz];omega
 obtain⟨fit,nr⟩:=WC (A:=A') (ui:=ui) (w:=w) hkd hpw hA3 (by omega) (by omega) hw0 hw16
 rw[en]at fit nr hK
 obtain⟨h3',h3,u3,hh3',hh3,B3',B3,s3,hz3⟩:=kZ u2 h2 [.int .i64 0,.int .i64 0,.int .i64 0,.slice none 0 0,.slice none 0 0,.int .i64 0,.bool false,.int .i64 0,.bool false,.int .i64 0,.int .i64 0] [.int .i64 kd,.int .i64 ui,.int .i64 mi,.slice none 0 0,.slice none 0 0,.int .i64 0,.bool false,.int .i64 0,.bool false,.int .i64 0,.int .i64 0] 36 rfl
 obtain⟨nb,hnb⟩:=kJ h2.size
 rw[<-hnb]at B3' B3 hh3
 have A3:=A2.sZ s3
 have D3:=D2.sZ s3
 have B31:=B3.1
 have B3'1:=B3'.1
 have A31:=A3.1
 simp(disch:=first|omega|simp only[zz];try omega;done) only[↓reduceIte,go_sem,<-hnb,<-hh3',B3'.2.1,B3'.2.2.1,<-hh3,A3.at,A3.2.1]
 obtain⟨e2,he2⟩:=kJ h2
 have p20:kG (Sv mb pb va (.slice (some ⟨qb,qo,none⟩) N.length nc) ve) u h u3 h3:=((p1.mono λb _ q=>q.elim).trans p2 λb _ q=>q).zero s3
 have iv3:=iv.mono p20.ge
 have hnb0:h.size<=nb:=by have:=p1.ge.sz;have:=p2.ge.sz;omega
 have hab3:ab<nb:=by have:=A2.1;omega
 obtain⟨I,hI⟩:=kJ (α:=Nat->lm->H->Prop) λk σ h'=> ∃(u':U) (vl vn:Value),σ 0= .pointer (some ⟨mb,0,none⟩)/\σ 7= .pointer (some ⟨ab,0,none⟩)/\σ 9= .int .i64 w/\σ 10= .pointer (some ⟨nb,0,none⟩)/\σ 30= .slice vx p.2.length vc/\σ 31= .int .i64 (p.2.length:Nat)/\σ 32= .int .i64 k/\k<=p.2.length/\kG S0 u2 h2 u' h'/\kV u' h' nb [.int .i64 kd,.int .i64 ui,.int .i64 mi,vl,vn,.int .i64 0,.bool false,.int .i64 0,.bool false,.int .i64 0,.int .i64 0]/\mr nb u' h' vl (oh w p.2 0 (p.2.take k))/\mr nb u' h' vn (qI w p.2 0 (p.2.take k))/\Ap h' [nb] [vl,vn]
 refine kH I (λj=>p.2.length - j) 0 (by rw[hI];exact⟨u3,.slice none 0 0,.slice none 0 0,by simp [kF],by simp [kF],by simp [kF],by simp [kF],by simp [kF],by simp [kF],by simp [kF],by omega,s3,B3,.nil _ _ _,.nil _ _ _,⟨λi j v w q1 q2 hij b q=>by
  have:v= .slice none 0 0:=by match i,q1 with|0,q1=>cases q1;rfl|1,q1=>cases q1;rfl
  exact absurd (this▸q) (xE b),λv hv b _ q=>by simp at hv;exact absurd (hv▸q) (xE b),λv hv b q=>by simp at hv;exact absurd (hv▸q) (xE b),λb q=>by rw[bJ.1 q];exact B31⟩⟩) ?_
 clear hh1 hh3 hh3' B3 B3'
 intro k σ h' hi
 rw[hI]at hi
 obtain⟨u',vl,vn,e0,e7,e9,e10,e30,e31,e32,hk,st,B,ol,on,ap⟩:=hi
 have D':=D2.sZ st
 have Q':=A2.sZ st
 have B1:=B.1
 have Q'1:=Q'.1
 have iv':=iv3
 by_cases hlt:k<p.2.length
 case neg=>
  rw[aK (by omega)]at ol on
  have hn8:(qI w p.2 0 p.2).length<=8:=aY Ad hpw.2.1
  obtain⟨xa,xc,rfl,-,-⟩:=ol.sl
  obtain⟨ya,yc,rfl,-,-⟩:=on.sl
  have t9:=kG.set (S:=λb=>b=nb) u' h' (b:=nb) (o:=10) (.int .i64 (w+(qI w p.2 0 p.2).length)) rfl (by rw[B.2.2.2.1];exact az _)
  have B9:kV u' (lh h' nb 10 (.int .i64 (w+(qI w p.2 0 p.2).length))) nb [.int .i64 kd,.int .i64 ui,.int .i64 mi,.slice xa (oh w p.2 0 p.2).length xc,.slice ya (qI w p.2 0 p.2).length yc,.int .i64 0,.bool false,.int .i64 0,.bool false,.int .i64 0,.int .i64 (w+(qI w p.2 0 p.2).length)]:=B.set (i:=10) (v:= .int .i64 (w+(qI w p.2 0 p.2).length)) (by simp)
  have ol9:=ol.step t9 λb q e=>ap.no _ (by simp) nb (by simp) (e▸q)
  have on9:=on.step t9 λb q e=>ap.no _ (by simp) nb (by simp) (e▸q)
  have st9:=st.own t9 λb q=>by rw[q];omega
  obtain⟨h9,hh9⟩:=kJ (lh h' nb 10 (.int .i64 (w+(qI w p.2 0 p.2).length)))
  rw[<-hh9]at B9 ol9 on9 st9
  have B91:=B9.1
  simp(disch:=first|omega|simp only[zz];try omega;done) only[↓reduceIte,go_sem,e0,e9,e10,e31,e32,au (show¬(k:Int)<(p.2.length:Nat) by omega),B.at,B.2.1,B.2.2.1,<-hh9,B9.at,B9.2.1]
  have D9:=D2.sZ st9
  refine kD (.inr (.inl ⟨rfl,u',k0,mb,pb,c,va2,_,ve,.slice xa (oh w p.2 0 p.2).length xc,.slice ya (qI w p.2 0 p.2).length yc,A',N,E,(kd,(ui:Int),(mi:Int),ou w p.2,qA w p.2,oQ,w+(qA w p.2).length),rfl,ol9.iZ,on9.iZ,fit,nr,by have:=p20.ge.sz;have:=st9.ge.sz;omega,D9,hN,λu10 h10 vn10 c10 D10 p10 g10=>⟨(λp q=>nomatch q),?_⟩⟩))
  simp(disch:=first|omega|simp only[zz];try omega;done) only[↓reduceIte,go_sem,Vs]
  refine hK u10 h10 va2 vn10 c10 D10 ?_ ?_
  ·refine((((p1.mono λb _ q=>q.elim).trans p2 λb _ q=>q).zero st9).trans p10 λb hb q=> ?_)
   rcases q with q|q|q|q|q
   ·exact .inl q
   ·exact .inr (.inl q)
   ·exact .inr (.inr (.inl ((g2 b q).resolve_right λq=>by have:=p1.ge.sz;omega)))
   ·exact .inr (.inr (.inr (.inl q)))
   ·exact .inr (.inr (.inr (.inr q)))
  ·intro b q
   rcases q with q|q|q|q|q
   ·exact .inl (.inl q)
   ·exact .inl (.inr (.inl q))
   ·rcases g2 b q with q|q
    ·exact .inl (.inr (.inr (.inl q)))
    ·exact .inr (by have:=p1.ge.sz;omega)
   ·rcases g10 b q with q|q
    ·exact .inl (.inr (.inr (.inr (.inl q))))
    ·exact .inr (by have:=p20.ge.sz;have:=st9.ge.sz;have:=p1.ge.sz;have:=p2.ge.sz;omega)
   ·exact .inl (.inr (.inr (.inr (.inr q))))
 obtain⟨y,hy⟩: ∃y,p.2[k]? =some y:=⟨p.2[k],by simp [hlt]⟩
 obtain⟨pb',po,rfl,hpb,hpu,hpz,hpr⟩:=((iv.mono p1.ge).mono (p2.ge.trans st.ge)).row k y hy
 rw[vY]at hpr
 simp only[Iw,qX,aG,aP]at hpr hpu hpz
 obtain⟨q0,q1⟩:=hpr
 have e30':σ 30= .slice (some ⟨pb',po,none⟩) p.2.length vc:=e30
 obtain⟨h5',h6,u6,hh5,hh6,B5,B6,s6,hz6⟩:=kZ u' h' [.bool false,.int .i64 0] [.bool y.1,.int .i64 y.2] 32 rfl
 have B51:=B5.1
 have B61:=B6.1
 obtain⟨bb,hbb⟩:=kJ h'.size
 rw[<-hbb]at B5 B51 B6 B61 hh6
 have A6:=Q'.sZ s6
 have A61:=A6.1
 obtain⟨cl,hcl⟩:=kJ (α:=Value) (.func (.func 48) #[] #[.pointer (some ⟨bb,0,none⟩)])
 simp(disch:=first|omega|simp only[zz];try omega;done) only[↓reduceIte,go_sem,e7,e30',e31,e32,af (show(k:Int)<(p.2.length:Nat) by omega),q0,q1,<-hbb,<-hh5,<-hh6,B5.2.1,B5.2.2.1,A6.at,A6.2.1,<-hcl]
 have iv6:=(iv.mono p1.ge).mono ((p2.ge.trans st.ge).trans s6.ge)
 refine kD (.inr (.inr ⟨rfl,u6,_,p.2,_,[.pointer (some ⟨bb,0,none⟩)],_,by rw[hcl],iv6,by have:=hpw.2.1;omega,YF (s:=y) B6,λu7 h7 s7=>⟨(λp q=>nomatch q),?_⟩⟩))
 have B7:=(B.sZ s6).sZ s7
 have Y7:=B6.sZ s7
 have ol7:=(ol.sZ s6).sZ s7
 have on7:=(on.sZ s6).sZ s7
 have ap7:=(ap.mono s6.ge.sz).mono s7.ge.sz
 have st7:=(st.tZ s6).tZ s7
 have B71:=B7.1
 have Y71:=Y7.1
 obtain⟨fx,hfx⟩:=kJ (Nu (λt=>t.1 && decide (t.2=y.2)) p.2)
 rw[<-hfx]
 have tk:p.2.take (k+1)=p.2.take k++[y]:=by rw[aS,hy];rfl
 have tl:0+(p.2.take k).length=k:=by rw[aT];omega
 have l8:=hpw.2.1
 have lnl:= @xx w p.2 (p.2.take k) 0
 have lnn:= @Ad w p.2 (p.2.take k) 0
 rw[aT]at lnl lnn
 have fin: ∀(σ'':lm) (u9:U) (h9:H) (vl' vn':Value),σ'' 32= .int .i64 ((k:Int)+1)->(∀i,i<32->i≠11->i≠12->i≠13->σ'' i=σ i)->kG S0 u2 h2 u9 h9->kV u9 h9 nb [.int .i64 kd,.int .i64 ui,.int .i64 mi,vl',vn',.int .i64 0,.bool false,.int .i64 0,.bool false,.int .i64 0,.int .i64 0]->mr nb u9 h9 vl' (oh w p.2 0 (p.2.take (k+1)))->mr nb u9 h9 vn' (qI w p.2 0 (p.2.take (k+1)))->Ap h9 [nb] [vl',vn']-> ∃j,I j σ'' h9/\p.2.length - j<p.2.length - k:=by
  intro σ'' u9 h9 vl' vn' g32 gσ a1 a2 a3 a4 a5
  refine⟨k+1,?_,by omega⟩
  rw[hI]
  exact⟨u9,vl',vn',(gσ 0 (by omega) (by omega) (by omega) (by omega)).trans e0,(gσ 7 (by omega) (by omega) (by omega) (by omega)).trans e7,(gσ 9 (by omega) (by omega) (by omega) (by omega)).trans e9,(gσ 10 (by omega) (by omega) (by omega) (by omega)).trans e10,(gσ 30 (by omega) (by omega) (by omega) (by omega)).trans e30',(gσ 31 (by omega) (by omega) (by omega) (by omega)).trans e31,by rw[g32];simp,hlt,a1,a2,a3,a4,a5⟩
 have same:CW p.2 k y=false->mr nb u7 h7 vl (oh w p.2 0 (p.2.take (k+1)))/\mr nb u7 h7 vn (qI w p.2 0 (p.2.take (k+1))):=λq=>by
  rw[tk,vW,Ac,tl,ah (by simp [q]),ah (by simp [q]),dU,dU]
  exact⟨ol7,on7⟩
 obtain⟨yb,yn⟩:=y
 simp only at hfx B6 Y7 same q0 q1
 by_cases hF:fx=(k:Int)
 ·cases yb with
  |false=>
   have:=same rfl
   simp(disch:=first|omega|simp only[zz];try omega;done) only[↓reduceIte,go_sem,Y7.at,Y7.2.1,af hF,e32]
   exact fin _ u7 h7 vl vn (by simp [kF]) (λi q1 q2 q3 q4=>by simp only[kF];repeat rw[ah (by omega)]) st7 B7 this.1 this.2 ap7
  |true=>
   have hisF:=(QJ hy rfl).1 (hfx.symm.trans hF)
   by_cases hlw:yn<w
   ·simp(disch:=first|omega|simp only[zz];try omega;done) only[↓reduceIte,go_sem,Y7.at,Y7.2.1,af hF,e9,e10,af hlw,B7.2.1,B7.at]
    refine kK (by simp only[]) ol7 (x:=((k:Int),yn)) (by simp [mO,lD]) rfl rfl (by omega) (by omega) λa8 n8 c8 u8 h8 o8 s8 hO8=>⟨(λp q=>nomatch q),?_⟩
    have B8:=B7.step s8 (ap7.no vl (by simp) nb (by simp))
    have B81:=B8.1
    have t9:=kG.set (S:=λb=>b=nb) u8 h8 (b:=nb) (o:=3) (.slice a8 n8 c8) rfl (by rw[B8.2.2.2.1];exact az _)
    have ap9:=ap7.set (i:=0) (v':= .slice a8 n8 c8) (h':=h8) rfl hO8 (λb q=>o8.lt q) s8.ge.sz
    have B9:=B8.set (i:=3) (v:=(.slice a8 n8 c8)) (by simp)
    have ap10:Ap (lh h8 nb 3 (.slice a8 n8 c8)) [nb] [(.slice a8 n8 c8),vn]:=ap9.mono (by rw[qz];exact aH _)
    have ol9:=o8.step t9 λb q e=>ap9.no (.slice a8 n8 c8) (by simp) nb (by simp) (e▸q)
    have on9:=(on7.step s8 λb q q'=>ap7.apt 1 0 _ _ rfl rfl (by decide) b q q').step t9 λb q e=>ap7.no vn (by simp) nb (by simp) (e▸q)
    have st9:=(st7.own s8 λb q=>by have:=ol7.ge q;omega).own t9 λb q=>by rw[q];omega
    obtain⟨h9,hh9⟩:=kJ (lh h8 nb 3 (.slice a8 n8 c8))
    rw[<-hh9]at B9 ap10 ol9 on9 st9
    simp(disch:=first|omega|simp only[zz];try omega;done) only[↓reduceIte,go_sem,e10,e32,B8.2.1,B8.2.2.1,<-hh9]
    exact fin _ u8 h9 (.slice a8 n8 c8) vn (by simp [kF]) (λi q1 q2 q3 q4=>by simp only[kF];repeat rw[ah (by omega)]) st9 B9 (by rw[tk,vW,tl,ay ⟨hisF,hlw⟩];exact ol9) (by rw[tk,Ac,tl,ah (λq=>q.2 hlw),dU];exact on9) ap10
   ·simp(disch:=first|omega|simp only[zz];try omega;done) only[↓reduceIte,go_sem,Y7.at,Y7.2.1,af hF,e9,e10,au hlw,B7.2.1,B7.at]
    refine kK (by simp only[]) on7 (x:=(k:Int)) (by rw[lD]) rfl rfl (by omega) (by omega) λa8 n8 c8 u8 h8 o8 s8 hO8=>⟨(λp q=>nomatch q),?_⟩
    have B8:=B7.step s8 (ap7.no vn (by simp) nb (by simp))
    have B81:=B8.1
    have t9:=kG.set (S:=λb=>b=nb) u8 h8 (b:=nb) (o:=4) (.slice a8 n8 c8) rfl (by rw[B8.2.2.2.1];exact az _)
    have ap9:=ap7.set (i:=1) (v':= .slice a8 n8 c8) (h':=h8) rfl hO8 (λb q=>o8.lt q) s8.ge.sz
    have B9:=B8.set (i:=4) (v:=(.slice a8 n8 c8)) (by simp)
    have ap10:Ap (lh h8 nb 4 (.slice a8 n8 c8)) [nb] [vl,(.slice a8 n8 c8)]:=ap9.mono (by rw[qz];exact aH _)
    have on9:=o8.step t9 λb q e=>ap9.no (.slice a8 n8 c8) (by simp) nb (by simp) (e▸q)
    have ol9:=(ol7.step s8 λb q q'=>ap7.apt 0 1 _ _ rfl rfl (by decide) b q q').step t9 λb q e=>ap7.no vl (by simp) nb (by simp) (e▸q)
    have st9:=(st7.own s8 λb q=>by have:=on7.ge q;omega).own t9 λb q=>by rw[q];omega
    obtain⟨h9,hh9⟩:=kJ (lh h8 nb 4 (.slice a8 n8 c8))
    rw[<-hh9]at B9 ap10 ol9 on9 st9
    simp(disch:=first|omega|simp only[zz];try omega;done) only[↓reduceIte,go_sem,e10,e32,B8.2.1,B8.2.2.1,<-hh9]
    exact fin _ u8 h9 vl (.slice a8 n8 c8) (by simp [kF]) (λi q1 q2 q3 q4=>by simp only[kF];repeat rw[ah (by omega)]) st9 B9 (by rw[tk,vW,tl,ah (λq=>hlw q.2),dU];exact ol9) (by rw[tk,Ac,tl,ay ⟨hisF,hlw⟩];exact on9) ap10
 ·cases yb with
  |false=>
   have:=same rfl
   simp(disch:=first|omega|simp only[zz];try omega;done) only[↓reduceIte,go_sem,Y7.at,Y7.2.1,au hF,e32]
   exact fin _ u7 h7 vl vn (by simp [kF]) (λi q1 q2 q3 q4=>by simp only[kF];repeat rw[ah (by omega)]) st7 B7 this.1 this.2 ap7
  |true=>
   have:=same (gq.2 λq=>hF (hfx.trans ((QJ hy rfl).2 q)))
   simp(disch:=first|omega|simp only[zz];try omega;done) only[↓reduceIte,go_sem,Y7.at,Y7.2.1,au hF,e32]
   exact fin _ u7 h7 vl vn (by simp [kF]) (λi q1 q2 q3 q4=>by simp only[kF];repeat rw[ah (by omega)]) st7 B7 this.1 this.2 ap7
end Go.Proofs.Z
namespace Edict
open Go.Ev
def CB(r:qW):Prop:=(∃w,Chn 0 (kQ r) w)/\(kQ r).length<=16/\(kQ r).Pairwise (λa b=>a.1<=b.1)/\ ∀t∈r.2.2.1,pJ t.2.1.2/\pJ t.2.2.2
structure Cst (R0:List (List oU)) (W:List (List Nat)) (E:List Nat) (r:qW) (t ui:Nat) (A:List lY) (N:List lG):Prop where
 P: ∃ws,yD R0 W E ((kQ r).take t) ws ui A N
 C: ∃we,Chn (wd N ui) ((kQ r).drop t) we
theorem Nl{a:Nat}: ∀{N:List lG} {x y:Nat},yg a x N=some y->y<=x+N.length
 |[],x,y,h=>by cases h;exact aH _
 |n::N,x,y,h=>by
  rw[yg]at h
  rw[aM]
  split at h
  ·split at h
   ·cases h
   ·have:=Nl h;split at this<;>omega
  ·have:=Nl h;omega
theorem WA(R:List (List oU))(cs:List oU):JM R cs<=cs.length:=by
 unfold JM
 refine aY (dR _ _) ?_
 rw[iI];exact aH _
theorem Np: ∀{R P:List (List oU)},(∀r∈R,r.length<=16)->wG P R<=16*R.length
 |[],P,_=>az _
 |r::R,P,h=>by
  have h1:=WA P r
  have h2:=h r (by simp)
  have h3:=Np (R:=R) (P:=P++[r]) λx q=>h x (by simp [q])
  rw[wG,aM];omega
section
variable {R0:List (List oU)} {W:List (List Nat)} {E:List Nat} {r:qW} {t ui:Nat} {A:List lY} {N:List lG}
theorem yD.bounds{cs:List oU}{ws:List Nat}(P:yD R0 W E cs ws ui A N)(hR:R0.length<=100000)(h16: ∀q∈R0,q.length<=16)(hc:cs.length<=16):0<N.length/\N.length<=1600017/\A.length<=1600017/\ui<N.length/\0<=wd N ui/\wd N ui<=16/\(∀s∈A,s.2.length<=8)/\wd N 0=0:=by
 have h1:=P.cnt
 have h2:=WA R0 cs
 have h3:=Np (P:=[]) h16
 have h4:=Nl P.use
 have hN:0<N.length:=by omega
 have h5:=P.way.lt hN
 refine⟨hN,by omega,by omega,h5,(P.wid ui h5).1,(P.wid ui h5).2,λs hs=> ?_,zI P.inv.rt⟩
 obtain⟨p,hp,rfl⟩:=P.shp s hs
 unfold lJ;rw[aQ];exact hp.2.1
theorem Cst.bounds(c:Cst R0 W E r t ui A N)(hr:CB r)(hR:R0.length<=100000)(h16: ∀q∈R0,q.length<=16):0<N.length/\N.length<=1600017/\A.length<=1600017/\ui<N.length/\0<=wd N ui/\wd N ui<=16/\(∀s∈A,s.2.length<=8)/\wd N 0=0:=by
 obtain⟨ws,P⟩:=c.P
 exact P.bounds hR h16 (by rw[aT];have:=hr.2.1;omega)
theorem Cst.next(c:Cst R0 W E r t ui A N)(hr:CB r){d:oU}(hd:(kQ r)[t]? =some d):(∃w',vO (wd N ui) w' d)/\ ∀n,n=vC (qJ A d) ui (wd N ui) d->Cst R0 W E r (t+1) (sQ N n) (qJ A d) (wE N n):=by
 obtain⟨ws,P⟩:=c.P
 obtain⟨we,hC⟩:=c.C
 obtain⟨ht,e⟩:=aJ.1 hd
 rw[bK ht,e]at hC
 have tk:(kQ r).take (t+1)=(kQ r).take t++[d]:=by rw[aS,hd];rfl
 cases hC with
 | @cons _ x _ _ _ h1 h2 h3 h4=>
  refine⟨⟨_,h1⟩,λn hn=> ?_⟩
  obtain⟨a,b⟩:=P.step h1 ⟨h2,h3⟩ (by rw[aT];have:=hr.2.1;omega) (by rw[<-tk];exact hr.2.2.1.sublist (jo _ _)) n hn
  exact⟨⟨_,by rw[tk];exact a⟩,⟨we,by rw[b];exact h4⟩⟩
theorem abB{p:pK}{k:Int}(hk:k=1\/k=3):qJ A (k,p,oQ)=DN A (lJ p):=by
 unfold qJ DN
 by_cases q:lJ p∈A
 ·rw[ay (.inr q),ay q]
 ·rw[ah (λz=>z.elim (λz=>by simp only at z;omega) q),ah q]
theorem Cst.first(P:yD R0 W E [] [] 0 A N)(hr:CB r):Cst R0 W E r 0 0 A N:=by
 obtain⟨w,h⟩:=hr.1
 exact⟨⟨[],P⟩,⟨w,by rw[zI P.inv.rt];exact h⟩⟩
theorem Cst.last(c:Cst R0 W E r t ui A N)(ht:t=(kQ r).length): ∃W',yD (R0++[kQ r]) W' (E++[ui]) [] [] 0 A N:=by
 obtain⟨ws,P⟩:=c.P
 rw[ht,jI]at P
 exact⟨_,P.next⟩
end
theorem KO{r:qW}{k:Nat}{p:pK}(h:r.2.1[k]? =some p):(kQ r)[k]? =some (1,p,oQ):=by
 have hk:=(aJ.1 h).1
 unfold kQ
 rw[bi (by simpa using hk),aR,h];rfl
theorem Yx{r:qW}{k:Nat}{t:vP}(h:r.2.2.1[k]? =some t):(kQ r)[r.2.1.length+k]? =some (2,zy,t):=by
 have hk:=(aJ.1 h).1
 unfold kQ
 rw[bX (by simp),aQ,fP,bi (by simpa using hk),aR,h];rfl
theorem Yy{r:qW}{k:Nat}{p:pK}(h:r.2.2.2.1[k]? =some p):(kQ r)[r.2.1.length+r.2.2.1.length+k]? =some (3,p,oQ):=by
 unfold kQ
 rw[bX (by simp;omega),bX (by simp;omega),aQ,aQ,show r.2.1.length+r.2.2.1.length+k - r.2.1.length - r.2.2.1.length=k by omega,aR,h];rfl
theorem WB{ui:Nat}{w:Int}{t:vP}{A:List lY}(h: ∃w',vO w w' (2,zy,t))(hs:pJ t.2.1.2/\pJ t.2.2.2)(hu:ui<=2000000)(h0:0<=w)(h1:w<=16):wz (vC A ui w (2,zy,t))/\vC A ui w (2,zy,t)≠mR/\vC A ui w (2,zy,t)=(2,(ui:Int),-1,[],[],t,w):=by
 have e:vC A ui w (2,zy,t)=(2,(ui:Int),-1,[],[],t,w):=ay rfl
 obtain⟨w',⟨q|⟨q,-⟩,-⟩|⟨-,-,-,a,b,-,-⟩⟩:=h
 ·simp at q
 ·simp at q
 rw[e]
 refine⟨⟨show pJ 2 from⟨by decide,by decide⟩,⟨by show(_:Int)<=(ui:Int);omega,by show(ui:Int)<=_;omega⟩,show pJ (-1)from⟨by decide,by decide⟩,⟨by show _<=t.1;simp only at a;omega,by show t.1<=_;simp only at b;omega⟩,hs.1,hs.2,⟨by show _<=w;omega,by show w<=_;omega⟩,az _,az _,(λp q=>nomatch q),(λp q=>nomatch q)⟩,λq=> ?_,rfl⟩
 have:=bL (λx:lG=>x.1) q
 simp [mR]at this
end Edict
