/- A part of the proof. -/
import Derived.Test.YtgjkkjeakagomaaGreatDoorAl
import Init.Data.List.Lemmas
set_option linter.all false
namespace Edict
variable {d k:Nat} {s:List UInt8}
def kY(s:List UInt8)(k:Nat):Nat:=(s.getD k 0).toNat
def IB(c:Nat):Bool:=c == 32 || c == 9 || c == 10 || c == 13
def pr(s:List UInt8)(k a b:Nat):Bool:=decide (k+1<s.length) && (kY s k == a) && (kY s (k+1) == b)
def qW(s:List UInt8)(k:Nat):Nat:=if k<s.length/\kY s k≠10 then qW s (k+1)else k
termination_by s.length - k
def blk(s:List UInt8)(d k:Nat):Option Nat:=
 if k<s.length then
  if pr s k 47 42 then blk s (d+1) (k+2)
  else if pr s k 42 47 then(if d<=1 then some (k+2)else blk s (d - 1) (k+2))
  else blk s d (k+1)
 else none
termination_by s.length - k
theorem yM(h:k<s.length)(hb:kY s k≠10):qW s k=qW s (k+1):=by rw[qW,ah ⟨h,hb⟩]
theorem Cm(h: ¬(k<s.length/\kY s k≠10)):qW s k=k:=by rw[qW,af h]
theorem acF(hp:pr s k 47 42=true):blk s d k=blk s (d+1) (k+2):=by
 have h:k<s.length:=by simp [pr]at hp;omega
 rw[blk];simp [h,hp]
theorem Dp(h1:pr s k 47 42=false)(hp:pr s k 42 47=true):blk s d k=if d<=1 then some (k+2)else blk s (d - 1) (k+2):=by
 have h:k<s.length:=by simp [pr]at hp;omega
 rw[blk];simp [h,h1,hp]
theorem acG(h:k<s.length)(h1:pr s k 47 42=false)(h2:pr s k 42 47=false):blk s d k=blk s d (k+1):=by
 rw[blk];simp [h,h1,h2]
theorem XT(h:s.length<=k):blk s d k=none:=by
 rw[blk];simp;omega
theorem uA(s:List UInt8)(k:Nat):k<=qW s k:=by
 unfold qW;split
 ·exact aT (fG k) (uA s (k+1))
 ·exact ak k
termination_by s.length - k
theorem Dq(s:List UInt8)(k:Nat)(h:k<=s.length):qW s k<=s.length:=by
 unfold qW;split
 ·exact Dq s (k+1) zO
 ·exact h
termination_by s.length - k
theorem wX{a b:Nat}(h:pr s k a b=true):k+1<s.length:=by simp [pr]at h;exact h.1.1
theorem xx(s:List UInt8)(d k j:Nat)(h:blk s d k=some j):k<j/\j<=s.length:=by
 unfold blk at h
 split at h
 ·split at h
  ·rename_i h1;have:=xx s _ _ _ h;omega
  ·split at h
   ·rename_i h1
    have:=wX h1
    split at h
    ·cases h;omega
    ·have:=xx s _ _ _ h;omega
   ·have:=xx s _ _ _ h;omega
 ·cases h
termination_by s.length - k
def oL(s:List UInt8)(k:Nat):Nat×Bool:=
 if h:k<s.length then
  if IB (kY s k)then oL s (k+1)
  else if h37:kY s k=37 then oL s (qW s (k+1))
  else if pr s k 47 42 then match hb:blk s 1 (k+2)with|some j=>oL s j|none=>(k,false)
  else(k,true)
 else(k,true)
termination_by s.length - k
decreasing_by
 ·omega
 ·have:=uA s (k+1);omega
 ·have:=xx s _ _ _ hb;omega
theorem NC(h:s.length<=k):oL s k=(k,true):=by unfold oL;rw[dif_neg zO]
theorem UO(h:k<s.length)(hb:IB (kY s k)=true):oL s k=oL s (k+1):=by
 rw[oL];simp [h,hb]
theorem IC(h:k<s.length)(hb:kY s k=37):oL s k=oL s (qW s (k+1)):=by
 rw[oL];simp [h,hb,IB]
theorem IE{j:Nat}(hp:pr s k 47 42=true)(hb:blk s 1 (k+2)=some j):oL s k=oL s j:=by
 have h:=wX hp
 have h47:kY s k=47:=by simp [pr]at hp;exact hp.1.2
 rw[oL];simp only[show k<s.length by omega,dite_true,h47,hp]
 simp only[IB,Nat.reduceBEq,Bool.or_self,aD,aW,Nat.reduceEqDiff,dite_false,bv]
 split
 ·rename_i j' hj;rw[hb]at hj;cases hj;rfl
 ·rename_i hj;rw[hb]at hj;cases hj
theorem IG(hp:pr s k 47 42=true)(hb:blk s 1 (k+2)=none):oL s k=(k,false):=by
 have h:=wX hp
 have h47:kY s k=47:=by simp [pr]at hp;exact hp.1.2
 rw[oL];simp only[show k<s.length by omega,dite_true,h47,hp]
 simp only[IB,Nat.reduceBEq,Bool.or_self,aD,aW,Nat.reduceEqDiff,dite_false,bv]
 split
 ·rename_i j' hj;rw[hb]at hj;cases hj
 ·rfl
theorem II(h1:IB (kY s k)=false)(h2:kY s k≠37)(h3:pr s k 47 42=false):oL s k=(k,true):=by
 rw[oL];simp [h1,h2,h3]
end Edict
namespace Edict
variable {k o:Nat} {s:List UInt8}
abbrev kR:=Int×List UInt8×Int×Int×Int×Int
inductive TR where|ok (t:kR)|bad (c:Int) (o:Nat)
def pg(c:Nat):Bool:=decide (48<=c) && decide (c<=57)
def Iw(c:Nat):Bool:=decide (65<=c) && decide (c<=90)
def Iy(c:Nat):Bool:=decide (97<=c) && decide (c<=122)
def zw(c:Nat):Bool:=pg c || Iw c || Iy c || decide (c=95)
def oW(s:List UInt8)(k:Nat):Nat:=if k<s.length/\zw (kY s k)=true then oW s (k+1)else k
termination_by s.length - k
def sub(s:List UInt8)(a b:Nat):List UInt8:=(s.take b).drop a
def mX(l:List UInt8):Nat:=l.foldl (λv c=>v*10+(c.toNat - 48)) 0
def zS(s:List UInt8)(a b:Nat):Bool:=(sub s a b).all λc=>pg c.toNat
def nP(s:List UInt8)(o:Nat):TR:=
 if 64<oW s o - o then .bad 14 o
 else if sub s o (oW s o)=[110,111,116]then .ok (10,[],0,0,o,oW s o)
 else if Iy (kY s o)then .ok (1,sub s o (oW s o),0,0,o,oW s o)
 else .ok (2,sub s o (oW s o),0,0,o,oW s o)
def si(s:List UInt8)(o b:Nat):TR:=
 if zS s b (oW s b)then
  (if o<b then(if mX (sub s b (oW s b))<=9223372036854775808 then .ok (3,[],-(mX (sub s b (oW s b)):Nat),0,o,oW s b)else .bad 13 o)
   else if mX (sub s b (oW s b))<=9223372036854775807 then .ok (3,[],(mX (sub s b (oW s b)):Nat),0,o,oW s b)else .bad 13 o)
 else .bad 13 o
def BN(c:Nat):Option Nat:=if pg c then some (c - 48)else if 97<=c/\c<=102 then some (c - 97+10)else if 65<=c/\c<=70 then some (c - 65+10)else none
def xP(s:List UInt8)(i:Nat):Nat×Nat:=
 if kY s (i+1)=34 then(34,2)else if kY s (i+1)=92 then(92,2)else if kY s (i+1)=110 then(10,2)else if kY s (i+1)=116 then(9,2)else if kY s (i+1)=114 then(13,2)
 else if kY s (i+1)=120 then match BN (kY s (i+2)),BN (kY s (i+3))with|some a,some b=>(a*16+b,4)|_,_=>(0,0)
 else(0,0)
def og(s:List UInt8)(o i:Nat)(acc:List UInt8):TR:=
 if i<s.length/\32<=kY s i then
  if kY s i=34 then .ok (4,acc,0,0,o,(i+1:Nat))
  else if kY s i=92 then
   (if(xP s i).2=0 then .bad 12 i else if acc.length=255 then .bad 15 o else og s o (i+(xP s i).2) (acc++[UInt8.ofNat (xP s i).1]))
  else if acc.length=255 then .bad 15 o else og s o (i+1) (acc++[UInt8.ofNat (kY s i)])
 else .bad 11 o
termination_by s.length - i
def Pq(k op:Int)(o n:Nat):TR:= .ok (k,[],0,op,o,(o+n:Nat))
def uz(s:List UInt8)(o:Nat):TR:=
 if pr s o 58 45 then Pq 9 0 o 2 else if pr s o 33 61 then Pq 11 2 o 2 else if pr s o 60 61 then Pq 11 4 o 2 else if pr s o 62 61 then Pq 11 6 o 2
 else if kY s o=60 then Pq 11 3 o 1 else if kY s o=62 then Pq 11 5 o 1 else if kY s o=61 then Pq 11 1 o 1
 else if kY s o=40 then Pq 5 0 o 1 else if kY s o=41 then Pq 6 0 o 1 else if kY s o=44 then Pq 7 0 o 1 else if kY s o=46 then Pq 8 0 o 1
 else .bad 10 o
def xw(s:List UInt8)(o:Nat):TR:=
 if s.length<=o then .ok (0,[],0,0,o,o)
 else if pg (kY s o)then si s o o
 else if kY s o=45/\pg (kY s (o+1))=true then si s o (o+1)
 else if zw (kY s o)then nP s o
 else if kY s o=34 then og s o (o+1) []
 else uz s o
def oK(s:List UInt8)(k:Nat):TR:=if(oL s k).2 then xw s (oL s k).1 else .bad 16 (oL s k).1
def wh(s:List UInt8):Nat->Nat->List kR×Int×Nat
 |0,_=>([],0,0)
 |n+1,k=>match oK s k with
  | .bad c o=>([],c,o)
  | .ok t=>if t.1=0 then([t],0,0)else(t::(wh s n t.2.2.2.2.2.toNat).1,(wh s n t.2.2.2.2.2.toNat).2)
def ll(s:List UInt8):List kR×Int×Nat:=if 65536<s.length then([],1,0)else wh s (s.length+1) 0
theorem zV(s:List UInt8)(k:Nat):kY s k<256:=by unfold kY;exact UInt8.toNat_lt _
theorem yL(h:s.length<=k):kY s k=0:=by unfold kY;rw[aG,dh h];rfl
theorem NB(h:k<s.length)(hb:zw (kY s k)=true):oW s k=oW s (k+1):=by rw[oW,ah ⟨h,hb⟩]
theorem Bi(h: ¬(k<s.length/\zw (kY s k)=true)):oW s k=k:=by rw[oW,af h]
theorem XR(s:List UInt8)(k:Nat):k<=oW s k:=by
 unfold oW;split
 ·exact aT (fG k) (XR s (k+1))
 ·exact ak k
termination_by s.length - k
theorem wV(s:List UInt8)(k:Nat)(h:k<=s.length):oW s k<=s.length:=by
 unfold oW;split
 ·exact wV s (k+1) zO
 ·exact h
termination_by s.length - k
theorem Dm(s:List UInt8)(i:Nat):(xP s i).2=0\/(xP s i).2=2/\i+1<s.length\/(xP s i).2=4/\i+3<s.length:=by
 have hb: ∀k,kY s k≠0->k<s.length:=λk h=>gT λhk=>h (yL hk)
 unfold xP
 repeat' split
 all_goals first
  |exact .inl rfl
  |(refine .inr (.inl ⟨rfl,hb _ zO⟩))
  |skip
 rename_i a b ha hb2
 refine .inr (.inr ⟨rfl,hb _ λh0=> ?_⟩)
 rw[h0]at hb2
 simp [BN,pg]at hb2
theorem Qs(s:List UInt8)(i:Nat):(xP s i).1<256:=by
 have hx: ∀c a,BN c=some a->a<16:=by
  intro c a h
  unfold BN pg at h
  split at h
  ·rename_i h1;simp at h1;cases h;omega
  ·split at h
   ·cases h;omega
   ·split at h<;>cases h;omega
 unfold xP
 repeat' split
 all_goals first
  |decide
  |skip
 rename_i a b ha hb
 have:=hx _ _ ha;have:=hx _ _ hb
 simp only;omega
theorem UN{s:List UInt8}{o i:Nat}{acc:List UInt8}{t:kR}(h:og s o i acc= .ok t): ∃(e:Nat) (v:List UInt8),t=(4,v,0,0,(o:Int),(e:Int))/\i<e/\e<=s.length:=by
 unfold og at h
 split at h
 ·rename_i hi
  split at h
  ·cases h;exact⟨i+1,acc,rfl,zO,zO⟩
  ·split at h
   ·split at h
    ·cases h
    ·split at h
     ·cases h
     ·obtain⟨e,v,h1,h2,h3⟩:=UN h
      exact⟨e,v,h1,zO,h3⟩
   ·split at h
    ·cases h
    ·obtain⟨e,v,h1,h2,h3⟩:=UN h
     exact⟨e,v,h1,zO,h3⟩
 ·cases h
termination_by s.length - i
theorem Dn{a b:Nat}(h:b<=s.length):(sub s a b).length=b - a:=by unfold sub;simp;omega
theorem xQ(h:o<s.length)(hw:zw (kY s o)=true):o<oW s o:=by
 rw[NB h hw];exact XR s (o+1)
theorem af1{t:kR}(ho:o<s.length)(h:uz s o= .ok t): ∃(c p:Int) (e:Nat),t=(c,[],0,p,(o:Int),(e:Int))/\c≠0/\o<e/\e<=s.length:=by
 have two: ∀k op a b,k≠0->pr s o a b=true->Pq k op o 2= .ok t-> ∃(c p:Int) (e:Nat),t=(c,[],0,p,(o:Int),(e:Int))/\c≠0/\o<e/\e<=s.length:=by
  intro k op a b hk hp h
  have:=wX hp
  cases h;exact⟨k,op,o+2,rfl,hk,zO,zO⟩
 have one: ∀k op,k≠0->Pq k op o 1= .ok t-> ∃(c p:Int) (e:Nat),t=(c,[],0,p,(o:Int),(e:Int))/\c≠0/\o<e/\e<=s.length:=by
  intro k op hk h
  cases h;exact⟨k,op,o+1,rfl,hk,zO,zO⟩
 unfold uz at h
 by_cases q:pr s o 58 45=true
 ·rw[ah q]at h;exact two _ _ _ _ zD q h
 rw[af q]at h;clear q
 by_cases q:pr s o 33 61=true
 ·rw[ah q]at h;exact two _ _ _ _ zD q h
 rw[af q]at h;clear q
 by_cases q:pr s o 60 61=true
 ·rw[ah q]at h;exact two _ _ _ _ zD q h
 rw[af q]at h;clear q
 by_cases q:pr s o 62 61=true
 ·rw[ah q]at h;exact two _ _ _ _ zD q h
 rw[af q]at h;clear q
 by_cases q:kY s o=60
 ·rw[ah q]at h;exact one _ _ zD h
 rw[af q]at h;clear q
 by_cases q:kY s o=62
 ·rw[ah q]at h;exact one _ _ zD h
 rw[af q]at h;clear q
 by_cases q:kY s o=61
 ·rw[ah q]at h;exact one _ _ zD h
 rw[af q]at h;clear q
 by_cases q:kY s o=40
 ·rw[ah q]at h;exact one _ _ zD h
 rw[af q]at h;clear q
 by_cases q:kY s o=41
 ·rw[ah q]at h;exact one _ _ zD h
 rw[af q]at h;clear q
 by_cases q:kY s o=44
 ·rw[ah q]at h;exact one _ _ zD h
 rw[af q]at h;clear q
 by_cases q:kY s o=46
 ·rw[ah q]at h;exact one _ _ zD h
 rw[af q]at h;clear q
 cases h
theorem ai6{t:kR}(hk:o<=s.length)(h:xw s o= .ok t): ∃(c:Int) (v:List UInt8) (n p:Int) (e:Nat),t=(c,v,n,p,(o:Int),(e:Int))/\e<=s.length/\(c=0->e=o/\o=s.length/\v=[]/\n=0/\p=0)/\(c≠0->o<e):=by
 unfold xw at h
 split at h
 ·cases h;exact⟨0,[],0,0,o,rfl,hk,λ_=>⟨rfl,zO,rfl,rfl,rfl⟩,λh=>absurd rfl h⟩
 ·rename_i ho
  have hint: ∀b,(b=o\/b=o+1)->pg (kY s b)=true->si s o b= .ok t-> ∃(c:Int) (v:List UInt8) (n p:Int) (e:Nat),t=(c,v,n,p,(o:Int),(e:Int))/\e<=s.length/\(c=0->e=o/\o=s.length/\v=[]/\n=0/\p=0)/\(c≠0->o<e):=by
   intro b hb hd hi
   have hbl:b<s.length:=gT λh=>by rw[yL h]at hd;simp [pg]at hd
   have h1:=xQ hbl (by unfold zw;rw[hd];rfl)
   have h2:=wV s b zO
   unfold si at hi
   repeat' split at hi
   all_goals first
    |cases hi;done
    |(cases hi;exact⟨3,[],_,0,oW s b,rfl,h2,λh=>zO,λ_=>zO⟩)
  split at h
  ·rename_i hd;exact hint o (.inl rfl) hd h
  ·split at h
   ·rename_i hd;exact hint (o+1) (.inr rfl) hd.2 h
   ·split at h
    ·rename_i hw
     have h1:=xQ (show o<s.length by omega) hw
     have h2:=wV s o zO
     unfold nP at h
     repeat' split at h
     all_goals first
      |cases h;done
      |(cases h;exact⟨_,_,0,0,oW s o,rfl,h2,λh=>zO,λ_=>h1⟩)
    ·split at h
     ·obtain⟨e,v,h1,h2,h3⟩:=UN h
      exact⟨4,v,0,0,e,h1,h3,λh=>zO,λ_=>zO⟩
     ·obtain⟨c,p,e,rfl,h1,h2,h3⟩:=af1 (show o<s.length by omega) h
      exact⟨c,[],0,p,e,rfl,h3,λh=>absurd h h1,λ_=>h2⟩
theorem Iz{s:List UInt8}{k:Nat}:k<=(oL s k).1:=by
 unfold oL
 split
 ·split
  ·exact aT (fG k) Iz
  ·split
   ·exact aT (aT (fG k) (uA s (k+1))) Iz
   ·split
    ·split
     ·rename_i j hb;have:=xx s _ _ _ hb;exact aT zO Iz
     ·exact ak _
    ·exact ak _
 ·exact ak _
termination_by s.length - k
decreasing_by all_goals first|omega|(have:=uA s (k+1);omega)|(have:=xx s _ _ _ ‹_›;omega)
theorem zX{s:List UInt8}{k:Nat}(h:k<=s.length):(oL s k).1<=s.length:=by
 unfold oL
 split
 ·split
  ·exact zX zO
  ·split
   ·exact zX (Dq s (k+1) zO)
   ·split
    ·split
     ·rename_i j hb;have:=xx s _ _ _ hb;exact zX this.2
     ·exact h
    ·exact h
 ·exact h
termination_by s.length - k
decreasing_by all_goals first|omega|(have:=uA s (k+1);omega)|(have:=xx s _ _ _ ‹_›;omega)
theorem wW{t:kR}(hk:k<=s.length)(h:oK s k= .ok t): ∃(c:Int) (v:List UInt8) (n p:Int) (o e:Nat),t=(c,v,n,p,(o:Int),(e:Int))/\k<=o/\e<=s.length/\(c=0->e=o/\o=s.length/\v=[]/\n=0/\p=0)/\(c≠0->o<e):=by
 unfold oK at h
 split at h
 ·obtain⟨c,v,n,p,e,h1,h2,h3,h4⟩:=ai6 (zX hk) h
  exact⟨c,v,n,p,_,e,h1,Iz,h2,h3,h4⟩
 ·cases h
theorem IA{s:List UInt8}: ∀{n m k:Nat},k<=s.length->s.length - k<n->s.length - k<m->wh s n k=wh s m k
 |0,_,_,_,h,_=>absurd h (fZ _)
 |_,0,_,_,_,h=>absurd h (fZ _)
 |n+1,m+1,k,hk,h1,h2=>by
  unfold wh
  cases hx:oK s k with
  |bad c o=>rfl
  |ok t=>
   simp only
   obtain⟨c,v,a,p,o,e,rfl,q1,q2,q3,q4⟩:=wW hk hx
   simp only[dH]
   by_cases hc:c=0
   ·rw[ah hc,ah hc]
   ·have:=q4 hc
    rw[af hc,af hc,IA (n:=n) (m:=m) q2 zO zO]
def mH(s:List UInt8)(k:Nat):List kR×Int×Nat:=wh s (s.length+1) k
theorem xR{c:Int}(h:oK s k= .bad c o):mH s k=([],c,o):=by unfold mH wh;rw[h]
theorem xS{t:kR}(h:oK s k= .ok t)(h0:t.1=0):mH s k=([t],0,0):=by unfold mH wh;rw[h];simp [h0]
theorem zZ{t:kR}(hk:k<=s.length)(h:oK s k= .ok t)(h0:t.1≠0):mH s k=(t::(mH s t.2.2.2.2.2.toNat).1,(mH s t.2.2.2.2.2.toNat).2):=by
 obtain⟨c,v,a,p,o,e,rfl,q1,q2,q3,q4⟩:=wW hk h
 unfold mH
 rw[show wh s (s.length+1) k=_ from by unfold wh;rw[h]]
 simp only[dH]at h0 ⊢
 rw[af h0]
 have:=q4 h0
 rw[IA (n:=s.length) (m:=s.length+1) q2 zO zO]
end Edict
