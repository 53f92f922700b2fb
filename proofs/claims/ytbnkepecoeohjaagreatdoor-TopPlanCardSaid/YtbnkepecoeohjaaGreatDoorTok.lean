/- A part of the proof. -/
import Derived.Test.YtbnkepecoeohjaaGreatDoorAl
import Init.Data.List.Lemmas
set_option linter.all false
namespace Edict
variable {s:List UInt8} {k d:Nat}
def kS(s:List UInt8)(k:Nat):Nat:=(s.getD k 0).toNat
def Ch(c:Nat):Bool:=c == 32 || c == 9 || c == 10 || c == 13
def pr(s:List UInt8)(k a b:Nat):Bool:=decide (k+1<s.length) && (kS s k == a) && (kS s (k+1) == b)
def rM(s:List UInt8)(k:Nat):Nat:=if k<s.length/\kS s k≠10 then rM s (k+1)else k
termination_by s.length - k
def blk(s:List UInt8)(d k:Nat):Option Nat:=
 if k<s.length then
  if pr s k 47 42 then blk s (d+1) (k+2)
  else if pr s k 42 47 then(if d<=1 then some (k+2)else blk s (d - 1) (k+2))
  else blk s d (k+1)
 else none
termination_by s.length - k
theorem xP(h:k<s.length)(hb:kS s k≠10):rM s k=rM s (k+1):=by rw[rM,ay ⟨h,hb⟩]
theorem AZ(h: ¬(k<s.length/\kS s k≠10)):rM s k=k:=by rw[rM,ah h]
theorem aaH(hp:pr s k 47 42=true):blk s d k=blk s (d+1) (k+2):=by
 have h:k<s.length:=by simp [pr]at hp;omega
 rw[blk];simp [h,hp]
theorem GL(h1:pr s k 47 42=false)(hp:pr s k 42 47=true):blk s d k=if d<=1 then some (k+2)else blk s (d - 1) (k+2):=by
 have h:k<s.length:=by simp [pr]at hp;omega
 rw[blk];simp [h,h1,hp]
theorem GM(h:k<s.length)(h1:pr s k 47 42=false)(h2:pr s k 42 47=false):blk s d k=blk s d (k+1):=by
 rw[blk];simp [h,h1,h2]
theorem MF(h:s.length<=k):blk s d k=none:=by
 rw[blk];simp;omega
theorem ul(s:List UInt8)(k:Nat):k<=rM s k:=by
 unfold rM;split
 ·exact aY (jd k) (ul s (k+1))
 ·exact aH k
termination_by s.length - k
theorem Ci(s:List UInt8)(k:Nat)(h:k<=s.length):rM s k<=s.length:=by
 unfold rM;split
 ·exact Ci s (k+1) (by omega)
 ·exact h
termination_by s.length - k
theorem yz{a b:Nat}(h:pr s k a b=true):k+1<s.length:=by simp [pr]at h;exact h.1.1
theorem xQ(s:List UInt8)(d k j:Nat)(h:blk s d k=some j):k<j/\j<=s.length:=by
 unfold blk at h
 split at h
 ·split at h
  ·rename_i h1;have:=xQ s _ _ _ h;omega
  ·split at h
   ·rename_i h1
    have:=yz h1
    split at h
    ·cases h;omega
    ·have:=xQ s _ _ _ h;omega
   ·have:=xQ s _ _ _ h;omega
 ·cases h
termination_by s.length - k
def nK(s:List UInt8)(k:Nat):Nat×Bool:=
 if h:k<s.length then
  if Ch (kS s k)then nK s (k+1)
  else if h37:kS s k=37 then nK s (rM s (k+1))
  else if pr s k 47 42 then match hb:blk s 1 (k+2)with|some j=>nK s j|none=>(k,false)
  else(k,true)
 else(k,true)
termination_by s.length - k
decreasing_by
 ·omega
 ·have:=ul s (k+1);omega
 ·have:=xQ s _ _ _ hb;omega
theorem MG(h:s.length<=k):nK s k=(k,true):=by unfold nK;rw[dif_neg (by omega)]
theorem TE(h:k<s.length)(hb:Ch (kS s k)=true):nK s k=nK s (k+1):=by
 rw[nK];simp [h,hb]
theorem GN(h:k<s.length)(hb:kS s k=37):nK s k=nK s (rM s (k+1)):=by
 rw[nK];simp [h,hb,Ch]
theorem GQ{j:Nat}(hp:pr s k 47 42=true)(hb:blk s 1 (k+2)=some j):nK s k=nK s j:=by
 have h:=yz hp
 have h47:kS s k=47:=by simp [pr]at hp;exact hp.1.2
 rw[nK];simp only[show k<s.length by omega,dite_true,h47,hp]
 simp only[Ch,Nat.reduceBEq,Bool.or_self,aV,bZ,Nat.reduceEqDiff,dite_false,dx]
 split
 ·rename_i j' hj;rw[hb]at hj;cases hj;rfl
 ·rename_i hj;rw[hb]at hj;cases hj
theorem GR(hp:pr s k 47 42=true)(hb:blk s 1 (k+2)=none):nK s k=(k,false):=by
 have h:=yz hp
 have h47:kS s k=47:=by simp [pr]at hp;exact hp.1.2
 rw[nK];simp only[show k<s.length by omega,dite_true,h47,hp]
 simp only[Ch,Nat.reduceBEq,Bool.or_self,aV,bZ,Nat.reduceEqDiff,dite_false,dx]
 split
 ·rename_i j' hj;rw[hb]at hj;cases hj
 ·rfl
theorem GU(h1:Ch (kS s k)=false)(h2:kS s k≠37)(h3:pr s k 47 42=false):nK s k=(k,true):=by
 rw[nK];simp [h1,h2,h3]
end Edict
namespace Edict
variable {s:List UInt8} {k o:Nat}
abbrev Tok:=Int×List UInt8×Int×Int×Int×Int
inductive TR where|ok (t:Tok)|bad (c:Int) (o:Nat)
def qB(c:Nat):Bool:=decide (48<=c) && decide (c<=57)
def upB(c:Nat):Bool:=decide (65<=c) && decide (c<=90)
def Pw(c:Nat):Bool:=decide (97<=c) && decide (c<=122)
def uJ(c:Nat):Bool:=qB c || upB c || Pw c || decide (c=95)
def nG(s:List UInt8)(k:Nat):Nat:=if k<s.length/\uJ (kS s k)=true then nG s (k+1)else k
termination_by s.length - k
def sub(s:List UInt8)(a b:Nat):List UInt8:=(s.take b).drop a
def qE(l:List UInt8):Nat:=l.foldl (λv c=>v*10+(c.toNat - 48)) 0
def wR(s:List UInt8)(a b:Nat):Bool:=(sub s a b).all λc=>qB c.toNat
def rY(s:List UInt8)(o:Nat):TR:=
 if 64<nG s o - o then .bad 14 o
 else if sub s o (nG s o)=[110,111,116]then .ok (10,[],0,0,o,nG s o)
 else if Pw (kS s o)then .ok (1,sub s o (nG s o),0,0,o,nG s o)
 else .ok (2,sub s o (nG s o),0,0,o,nG s o)
def uk(s:List UInt8)(o b:Nat):TR:=
 if wR s b (nG s b)then
  (if o<b then(if qE (sub s b (nG s b))<=9223372036854775808 then .ok (3,[],-(qE (sub s b (nG s b)):Nat),0,o,nG s b)else .bad 13 o)
   else if qE (sub s b (nG s b))<=9223372036854775807 then .ok (3,[],(qE (sub s b (nG s b)):Nat),0,o,nG s b)else .bad 13 o)
 else .bad 13 o
def Al(c:Nat):Option Nat:=if qB c then some (c - 48)else if 97<=c/\c<=102 then some (c - 97+10)else if 65<=c/\c<=70 then some (c - 65+10)else none
def nU(s:List UInt8)(i:Nat):Nat×Nat:=
 if kS s (i+1)=34 then(34,2)else if kS s (i+1)=92 then(92,2)else if kS s (i+1)=110 then(10,2)else if kS s (i+1)=116 then(9,2)else if kS s (i+1)=114 then(13,2)
 else if kS s (i+1)=120 then match Al (kS s (i+2)),Al (kS s (i+3))with|some a,some b=>(a*16+b,4)|_,_=>(0,0)
 else(0,0)
def mU(s:List UInt8)(o i:Nat)(acc:List UInt8):TR:=
 if i<s.length/\32<=kS s i then
  if kS s i=34 then .ok (4,acc,0,0,o,(i+1:Nat))
  else if kS s i=92 then
   (if(nU s i).2=0 then .bad 12 i else if acc.length=255 then .bad 15 o else mU s o (i+(nU s i).2) (acc++[UInt8.ofNat (nU s i).1]))
  else if acc.length=255 then .bad 15 o else mU s o (i+1) (acc++[UInt8.ofNat (kS s i)])
 else .bad 11 o
termination_by s.length - i
def MC(k op:Int)(o n:Nat):TR:= .ok (k,[],0,op,o,(o+n:Nat))
def wS(s:List UInt8)(o:Nat):TR:=
 if pr s o 58 45 then MC 9 0 o 2 else if pr s o 33 61 then MC 11 2 o 2 else if pr s o 60 61 then MC 11 4 o 2 else if pr s o 62 61 then MC 11 6 o 2
 else if kS s o=60 then MC 11 3 o 1 else if kS s o=62 then MC 11 5 o 1 else if kS s o=61 then MC 11 1 o 1
 else if kS s o=40 then MC 5 0 o 1 else if kS s o=41 then MC 6 0 o 1 else if kS s o=44 then MC 7 0 o 1 else if kS s o=46 then MC 8 0 o 1
 else .bad 10 o
def wT(s:List UInt8)(o:Nat):TR:=
 if s.length<=o then .ok (0,[],0,0,o,o)
 else if qB (kS s o)then uk s o o
 else if kS s o=45/\qB (kS s (o+1))=true then uk s o (o+1)
 else if uJ (kS s o)then rY s o
 else if kS s o=34 then mU s o (o+1) []
 else wS s o
def oo(s:List UInt8)(k:Nat):TR:=if(nK s k).2 then wT s (nK s k).1 else .bad 16 (nK s k).1
def yu(s:List UInt8):Nat->Nat->List Tok×Int×Nat
 |0,_=>([],0,0)
 |n+1,k=>match oo s k with
  | .bad c o=>([],c,o)
  | .ok t=>if t.1=0 then([t],0,0)else(t::(yu s n t.2.2.2.2.2.toNat).1,(yu s n t.2.2.2.2.2.toNat).2)
def lZ(s:List UInt8):List Tok×Int×Nat:=if 65536<s.length then([],1,0)else yu s (s.length+1) 0
theorem yO(s:List UInt8)(k:Nat):kS s k<256:=by unfold kS;exact UInt8.toNat_lt _
theorem si(h:s.length<=k):kS s k=0:=by unfold kS;rw[aO,aW h];rfl
theorem xN(h:k<s.length)(hb:uJ (kS s k)=true):nG s k=nG s (k+1):=by rw[nG,ay ⟨h,hb⟩]
theorem tq(h: ¬(k<s.length/\uJ (kS s k)=true)):nG s k=k:=by rw[nG,ah h]
theorem ME(s:List UInt8)(k:Nat):k<=nG s k:=by
 unfold nG;split
 ·exact aY (jd k) (ME s (k+1))
 ·exact aH k
termination_by s.length - k
theorem uQ(s:List UInt8)(k:Nat)(h:k<=s.length):nG s k<=s.length:=by
 unfold nG;split
 ·exact uQ s (k+1) (by omega)
 ·exact h
termination_by s.length - k
theorem VF{s:List UInt8}{k i:Nat}(h1:k<=i)(h2:i<nG s k):i<s.length/\uJ (kS s i)=true:=by
 by_cases h:k<s.length/\uJ (kS s k)=true
 ·rw[xN h.1 h.2]at h2
  by_cases e:i=k
  ·subst e;exact h
  ·exact VF (k:=k+1) (by omega) h2
 ·rw[tq h]at h2;omega
termination_by s.length - k
theorem GH{s:List UInt8}{k:Nat}: ¬(nG s k<s.length/\uJ (kS s (nG s k))=true):=by
 by_cases h:k<s.length/\uJ (kS s k)=true
 ·rw[xN h.1 h.2];exact GH
 ·rw[tq h];exact h
termination_by s.length - k
theorem tH(s:List UInt8)(i:Nat):(nU s i).2=0\/(nU s i).2=2/\i+1<s.length\/(nU s i).2=4/\i+3<s.length:=by
 have hb: ∀k,kS s k≠0->k<s.length:=λk h=>eY λhk=>h (si hk)
 unfold nU
 repeat' split
 all_goals first
  |exact .inl rfl
  |(refine .inr (.inl ⟨rfl,hb _ (by omega)⟩))
  |skip
 rename_i a b ha hb2
 refine .inr (.inr ⟨rfl,hb _ λh0=> ?_⟩)
 rw[h0]at hb2
 simp [Al,qB]at hb2
theorem Px(s:List UInt8)(i:Nat):(nU s i).1<256:=by
 have hx: ∀c a,Al c=some a->a<16:=by
  intro c a h
  unfold Al qB at h
  split at h
  ·rename_i h1;simp at h1;cases h;omega
  ·split at h
   ·cases h;omega
   ·split at h<;>cases h;omega
 unfold nU
 repeat' split
 all_goals first
  |decide
  |skip
 rename_i a b ha hb
 have:=hx _ _ ha;have:=hx _ _ hb
 simp only;omega
theorem yP{s:List UInt8}{o i:Nat}{acc:List UInt8}{t:Tok}(h:mU s o i acc= .ok t): ∃(e:Nat) (v:List UInt8),t=(4,v,0,0,(o:Int),(e:Int))/\i<e/\e<=s.length:=by
 unfold mU at h
 split at h
 ·rename_i hi
  split at h
  ·cases h;exact⟨i+1,acc,rfl,by omega,by omega⟩
  ·split at h
   ·split at h
    ·cases h
    ·split at h
     ·cases h
     ·obtain⟨e,v,h1,h2,h3⟩:=yP h
      exact⟨e,v,h1,by omega,h3⟩
   ·split at h
    ·cases h
    ·obtain⟨e,v,h1,h2,h3⟩:=yP h
     exact⟨e,v,h1,by omega,h3⟩
 ·cases h
termination_by s.length - i
theorem tJ{a b:Nat}(h:b<=s.length):(sub s a b).length=b - a:=by unfold sub;simp;omega
theorem vK(h:o<s.length)(hw:uJ (kS s o)=true):o<nG s o:=by
 rw[xN h hw];exact ME s (o+1)
theorem adx{t:Tok}(ho:o<s.length)(h:wS s o= .ok t): ∃(c p:Int) (e:Nat),t=(c,[],0,p,(o:Int),(e:Int))/\c≠0/\o<e/\e<=s.length:=by
 have two: ∀k op a b,k≠0->pr s o a b=true->MC k op o 2= .ok t-> ∃(c p:Int) (e:Nat),t=(c,[],0,p,(o:Int),(e:Int))/\c≠0/\o<e/\e<=s.length:=by
  intro k op a b hk hp h
  have:=yz hp
  cases h;exact⟨k,op,o+2,rfl,hk,by omega,by omega⟩
 have one: ∀k op,k≠0->MC k op o 1= .ok t-> ∃(c p:Int) (e:Nat),t=(c,[],0,p,(o:Int),(e:Int))/\c≠0/\o<e/\e<=s.length:=by
  intro k op hk h
  cases h;exact⟨k,op,o+1,rfl,hk,by omega,by omega⟩
 unfold wS at h
 by_cases q:pr s o 58 45=true
 ·rw[ay q]at h;exact two _ _ _ _ (by decide) q h
 rw[ah q]at h;clear q
 by_cases q:pr s o 33 61=true
 ·rw[ay q]at h;exact two _ _ _ _ (by decide) q h
 rw[ah q]at h;clear q
 by_cases q:pr s o 60 61=true
 ·rw[ay q]at h;exact two _ _ _ _ (by decide) q h
 rw[ah q]at h;clear q
 by_cases q:pr s o 62 61=true
 ·rw[ay q]at h;exact two _ _ _ _ (by decide) q h
 rw[ah q]at h;clear q
 by_cases q:kS s o=60
 ·rw[ay q]at h;exact one _ _ (by decide) h
 rw[ah q]at h;clear q
 by_cases q:kS s o=62
 ·rw[ay q]at h;exact one _ _ (by decide) h
 rw[ah q]at h;clear q
 by_cases q:kS s o=61
 ·rw[ay q]at h;exact one _ _ (by decide) h
 rw[ah q]at h;clear q
 by_cases q:kS s o=40
 ·rw[ay q]at h;exact one _ _ (by decide) h
 rw[ah q]at h;clear q
 by_cases q:kS s o=41
 ·rw[ay q]at h;exact one _ _ (by decide) h
 rw[ah q]at h;clear q
 by_cases q:kS s o=44
 ·rw[ay q]at h;exact one _ _ (by decide) h
 rw[ah q]at h;clear q
 by_cases q:kS s o=46
 ·rw[ay q]at h;exact one _ _ (by decide) h
 rw[ah q]at h;clear q
 cases h
theorem aaG{t:Tok}(hk:o<=s.length)(h:wT s o= .ok t): ∃(c:Int) (v:List UInt8) (n p:Int) (e:Nat),t=(c,v,n,p,(o:Int),(e:Int))/\e<=s.length/\(c=0->e=o/\o=s.length/\v=[]/\n=0/\p=0)/\(c≠0->o<e):=by
 unfold wT at h
 split at h
 ·cases h;exact⟨0,[],0,0,o,rfl,hk,λ_=>⟨rfl,by omega,rfl,rfl,rfl⟩,λh=>absurd rfl h⟩
 ·rename_i ho
  have hint: ∀b,(b=o\/b=o+1)->qB (kS s b)=true->uk s o b= .ok t-> ∃(c:Int) (v:List UInt8) (n p:Int) (e:Nat),t=(c,v,n,p,(o:Int),(e:Int))/\e<=s.length/\(c=0->e=o/\o=s.length/\v=[]/\n=0/\p=0)/\(c≠0->o<e):=by
   intro b hb hd hi
   have hbl:b<s.length:=eY λh=>by rw[si h]at hd;simp [qB]at hd
   have h1:=vK hbl (by unfold uJ;rw[hd];rfl)
   have h2:=uQ s b (by omega)
   unfold uk at hi
   repeat' split at hi
   all_goals first
    |cases hi;done
    |(cases hi;exact⟨3,[],_,0,nG s b,rfl,h2,λh=>by omega,λ_=>by omega⟩)
  split at h
  ·rename_i hd;exact hint o (.inl rfl) hd h
  ·split at h
   ·rename_i hd;exact hint (o+1) (.inr rfl) hd.2 h
   ·split at h
    ·rename_i hw
     have h1:=vK (show o<s.length by omega) hw
     have h2:=uQ s o (by omega)
     unfold rY at h
     repeat' split at h
     all_goals first
      |cases h;done
      |(cases h;exact⟨_,_,0,0,nG s o,rfl,h2,λh=>by omega,λ_=>h1⟩)
    ·split at h
     ·obtain⟨e,v,h1,h2,h3⟩:=yP h
      exact⟨4,v,0,0,e,h1,h3,λh=>by omega,λ_=>by omega⟩
     ·obtain⟨c,p,e,rfl,h1,h2,h3⟩:=adx (show o<s.length by omega) h
      exact⟨c,[],0,p,e,rfl,h3,λh=>absurd h h1,λ_=>h2⟩
theorem GI{s:List UInt8}{k:Nat}:k<=(nK s k).1:=by
 unfold nK
 split
 ·split
  ·exact aY (jd k) GI
  ·split
   ·exact aY (aY (jd k) (ul s (k+1))) GI
   ·split
    ·split
     ·rename_i j hb;have:=xQ s _ _ _ hb;exact aY (by omega) GI
     ·exact aH _
    ·exact aH _
 ·exact aH _
termination_by s.length - k
decreasing_by all_goals first|omega|(have:=ul s (k+1);omega)|(have:=xQ s _ _ _ ‹_›;omega)
theorem yQ{s:List UInt8}{k:Nat}(h:k<=s.length):(nK s k).1<=s.length:=by
 unfold nK
 split
 ·split
  ·exact yQ (by omega)
  ·split
   ·exact yQ (Ci s (k+1) (by omega))
   ·split
    ·split
     ·rename_i j hb;have:=xQ s _ _ _ hb;exact yQ this.2
     ·exact h
    ·exact h
 ·exact h
termination_by s.length - k
decreasing_by all_goals first|omega|(have:=ul s (k+1);omega)|(have:=xQ s _ _ _ ‹_›;omega)
theorem xO{t:Tok}(hk:k<=s.length)(h:oo s k= .ok t): ∃(c:Int) (v:List UInt8) (n p:Int) (o e:Nat),t=(c,v,n,p,(o:Int),(e:Int))/\k<=o/\e<=s.length/\(c=0->e=o/\o=s.length/\v=[]/\n=0/\p=0)/\(c≠0->o<e):=by
 unfold oo at h
 split at h
 ·obtain⟨c,v,n,p,e,h1,h2,h3,h4⟩:=aaG (yQ hk) h
  exact⟨c,v,n,p,_,e,h1,GI,h2,h3,h4⟩
 ·cases h
theorem GJ{s:List UInt8}: ∀{n m k:Nat},k<=s.length->s.length - k<n->s.length - k<m->yu s n k=yu s m k
 |0,_,_,_,h,_=>absurd h (gQ _)
 |_,0,_,_,_,h=>absurd h (gQ _)
 |n+1,m+1,k,hk,h1,h2=>by
  unfold yu
  cases hx:oo s k with
  |bad c o=>rfl
  |ok t=>
   simp only
   obtain⟨c,v,a,p,o,e,rfl,q1,q2,q3,q4⟩:=xO hk hx
   simp only[eT]
   by_cases hc:c=0
   ·rw[ay hc,ay hc]
   ·have:=q4 hc
    rw[ah hc,ah hc,GJ (n:=n) (m:=m) q2 (by omega) (by omega)]
def mo(s:List UInt8)(k:Nat):List Tok×Int×Nat:=yu s (s.length+1) k
theorem Dm{c:Int}(h:oo s k= .bad c o):mo s k=([],c,o):=by unfold mo yu;rw[h]
theorem Dn{t:Tok}(h:oo s k= .ok t)(h0:t.1=0):mo s k=([t],0,0):=by unfold mo yu;rw[h];simp [h0]
theorem GK{t:Tok}(hk:k<=s.length)(h:oo s k= .ok t)(h0:t.1≠0):mo s k=(t::(mo s t.2.2.2.2.2.toNat).1,(mo s t.2.2.2.2.2.toNat).2):=by
 obtain⟨c,v,a,p,o,e,rfl,q1,q2,q3,q4⟩:=xO hk h
 unfold mo
 rw[show yu s (s.length+1) k=_ from by unfold yu;rw[h]]
 simp only[eT]at h0 ⊢
 rw[ah h0]
 have:=q4 h0
 rw[GJ (n:=s.length) (m:=s.length+1) q2 (by omega) (by omega)]
end Edict
