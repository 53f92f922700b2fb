import Derived.Test.YtmjinnbdnpedcaaGreatRdProg
import Derived.Test.YtmjinnbdnpedcaaGreatKpA
import Derived.HandedShaped
import Derived.Test.YtmjinnbdnpedcaaGreatUnb
import Derived.Test.YtmjinnbdnpedcaaGreatWell
section Merged
section Merged
namespace Go.Proofs.YtmjinnbdnpedcaaGreat
open Go Go.Ev Edict Go.ChangeShapes Go.WideShapes Go.ChangeAt Go.RowKit
theorem rp_atoms:Reads Tryz.prog 25 (List Atom):=reads_slice Tryz.underlying25 (by kernel_rfl) rp_atom
/- The table of powers has twenty numbers, whichever. -/
set_option maxRecDepth 100000 in
set_option linter.constructorNameAsVariable false in
theorem powT_of{W:World}(h:W.ShapedOpen Tryz.prog):PowT (hsz W.heap) W.heap:=by
 obtain⟨cs,hh,hs,hr⟩:=h.1 0 (Array.replicate 20 (.int .u64 0)) 220 (of_decide_eq_true (by kernel_rfl)) (by kernel_rfl)
 have hz:hsz W.heap 0=20:=by
  unfold hsz
  rw[hh]
  exact hs.trans Array.size_replicate
 have hl:0<W.heap.size:=(Array.getElem?_eq_some_iff.1 hh).1
 refine⟨hl,hz,by rw[hz];exact Nat.le_refl _,fun i hi=> ?_⟩
 obtain⟨ts,hts,_,hall⟩:=hr (by kernel_rfl)
 have hct:Tryz.prog.cellTypes Tryz.prog.depth 220=some (List.replicate 20 213):=by kernel_rfl
 rw[hct]at hts
 have hts:=Option.some.inj hts
 subst hts
 have h1:i<cs.size:=by rw[hs,Array.size_replicate];exact hi
 obtain⟨u,hu',hok⟩:=hall i cs[i] (Array.getElem?_eq_getElem h1)
 have hu:u=213:=by
  rw[List.length_replicate,Nat.mod_eq_of_lt hi,List.getElem?_replicate,if_pos hi]at hu'
  exact(Option.some.inj hu').symm
 subst hu
 unfold Cell.ok at hok
 rw[show Tryz.prog.underlying 213=some (.int .u64)from Tryz.underlying213]at hok
 have hv:Go.Ev.hv W.heap 0 i=cs[i]:=by
  unfold Go.Ev.hv hc
  rw[hh]
  simp [h1]
 rw[hv]
 cases hc:cs[i]<;>rw[hc]at hok<;>simp at hok
 case int k' n=>exact⟨n,by rw[hok.1]⟩
end Go.Proofs.YtmjinnbdnpedcaaGreat
end Merged
section Merged
namespace Edict
theorem loose_cases(vs:Strs): ∀(l:List Term),(∀t∈l,looseB vs t=false)∨ ∃(i:Nat) (t:Term),l[i]? =some t∧(∀s∈l.take i,looseB vs s=false)∧looseB vs t=true
 |[]=> .inl (by simp)
 |t::l=>by
  cases hb:looseB vs t with
  |true=>exact .inr ⟨0,t,rfl,by simp,hb⟩
  |false=>
   rcases loose_cases vs l with h|⟨i,s,h1,h2,h3⟩
   ·exact .inl fun s hs=>by
     rcases List.mem_cons.1 hs with rfl|hs
     ·exact hb
     ·exact h s hs
   ·refine .inr ⟨i+1,s,by simpa using h1,fun r hr=> ?_,h3⟩
    rw[List.take_succ_cons]at hr
    rcases List.mem_cons.1 hr with rfl|hr
    ·exact hb
    ·exact h2 r hr
end Edict
namespace Go.Proofs.YtmjinnbdnpedcaaGreat
open Go Go.Ev Edict
variable {vs:List Value} {h:H} {K:Value→H→Prop} {KP:List PanicEntry→H→Prop}
theorem own_empty{α:Type} [Rep α](k:Nat)(u:U)(h:H)(hk:k≤h.size)(e:TypeId):Own k (ub u h.size 0) (h.push (.cells #[] e)) (.slice (some ⟨h.size,0,none⟩) 0 0) ([]:List α):=by
 have:=Own.made (α:=α) (k:=k) u h hk e [] [] (by simp) (Nat.zero_le _) (fun i x hx=>by simp at hx)
 simpa using this
theorem clause_bulk{c:Clause}(hb:Rep.bulk c≤1048576):bulkL c.2≤1048576∧c.1.2.1.length≤1048576∧(c.2.flatMap askL).length≤1048576:=by
 have h2:=flat_bulk askL_len c.2
 have h3:Rep.bulk c=(c.1.1.length+1+(bulkL c.1.2.1+1))+bulkL c.2:=rfl
 have h4:=bulkL_pos c.1.2.1
 omega
def C_loose(vs:List Value)(h:H)(K:Value→H→Prop):Prop:= ∃(u:U) (t:Term) (v:Value) (l:Strs),vs=[.agg (Term.enc t).toArray,v]∧IsSl u h v l∧ ∀u' h',Step S0 u h u' h'→K (.bool (looseB l t)) h'
theorem rfLoose_ok(hC:C_loose vs h K):HCX Tryz.prog 61 vs h K KP:=by
 obtain⟨u,t,v,l,rfl,hl,hK⟩:=hC
 refine rfLoose_H G_rfVars G_rfVars_ok _ _ ?_
 have sp:=Step.push0 S0 u h #[.int .i64 t.1,.int .i64 t.2.1,str t.2.2.1,.int .i64 t.2.2.2] 56
 by_cases hk4:t.1=4
 ·by_cases h95:t.2.2.1=[95]
  ·have hb:looseB l t=true:=by unfold looseB;simp [hk4,h95]
   rw[hb]at hK
   simp(disch:=first|omega|(simp only[zz];try omega;done)) only[↓reduceIte,go_sem,rfLoose_S,rfLoose_E,Term.enc,eq_true hk4,eq_true h95]
   exact hK _ _ sp
  ·simp(disch:=first|omega|(simp only[zz];try omega;done)) only[↓reduceIte,go_sem,rfLoose_S,rfLoose_E,Term.enc,eq_true hk4,eq_false h95]
   refine effS_call ⟨rfl,_,_,l,t.2.2.1,rfl,hl.mono sp.ge,fun i hi=>⟨zz0,?_⟩⟩
   by_cases hin:t.2.2.1∈l
   ·have hb:looseB l t=false:=by unfold looseB;simp [hk4,h95,hin]
    rw[hb]at hK
    simp(disch:=first|omega|(simp only[zz];try omega;done)) only[↓reduceIte,go_sem,eq_false (show¬i<0 from fun h=>hi.1 h hin)]
    exact hK _ _ sp
   ·have hb:looseB l t=true:=by unfold looseB;simp [hk4,h95,hin]
    rw[hb]at hK
    simp(disch:=first|omega|(simp only[zz];try omega;done)) only[↓reduceIte,go_sem,eq_true (hi.2 hin)]
    exact hK _ _ sp
 ·have hb:looseB l t=false:=by unfold looseB;simp [hk4]
  rw[hb]at hK
  by_cases h95:t.2.2.1=[95]
  ·simp(disch:=first|omega|(simp only[zz];try omega;done)) only[↓reduceIte,go_sem,rfLoose_S,rfLoose_E,Term.enc,eq_false hk4,eq_true h95]
   exact hK _ _ sp
  ·simp(disch:=first|omega|(simp only[zz];try omega;done)) only[↓reduceIte,go_sem,rfLoose_S,rfLoose_E,Term.enc,eq_false hk4,eq_false h95]
   exact hK _ _ sp
def G_rfLooseT:Ctr:=fun f vs h K _=>(f=62∧C_vars vs h K)∨(f=61∧C_loose vs h K)
theorem G_rfLooseT_ok:GOk Tryz.prog G_rfLooseT:=by
 rintro f vs h K KP (⟨rfl,hC⟩|⟨rfl,hC⟩)
 ·exact rfVars_ok hC
 ·exact rfLoose_ok hC
def C_names(vs:List Value)(h:H)(K:Value→H→Prop):Prop:= ∃(u:U) (v w:Value) (l:Strs),vs=[v,w]∧IsSl u h v l∧IsSl u h w l∧K (.bool true) h
theorem lwNames_ok(hC:C_names vs h K):HCX Tryz.prog 71 vs h K KP:=by
 obtain⟨u,v,w,l,rfl,ha,hb,hK⟩:=hC
 obtain⟨aa,ac,rfl,q1,q2⟩:=ha.sl
 obtain⟨ba,bc,rfl,-,-⟩:=hb.sl
 have hm:=mlen'
 refine lwNames_H (fun _ _ _ _ _=>False) (fun _ _ _ _ _ h=>h.elim) _ _ ?_
 simp(disch:=first|omega|(simp only[zz];try omega;done)) only[↓reduceIte,go_sem,lwNames_S,lwNames_E]
 obtain⟨I,hI⟩: ∃I:Nat→Env→H→Prop,I=fun i σ h'=>σ 0= .slice aa l.length ac∧σ 1= .slice ba l.length bc∧σ 5= .int .i64 i∧i≤l.length∧h'=h:=⟨_,rfl⟩
 refine wpS_loop I (fun i=>l.length - i) 0 (by rw[hI];exact⟨by simp [upd],by simp [upd],by simp [upd],Nat.zero_le _,rfl⟩) ?_
 intro i σ h' hy
 rw[hI]at hy
 obtain⟨e0,e1,e5,hi,rfl⟩:=hy
 by_cases hlt:i<l.length
 ·obtain⟨x,hs⟩: ∃x,l[i]? =some x:=⟨l[i],by simp [hlt]⟩
  obtain⟨pb,po,rfl,hpb,hpu,hpz,hpr⟩:=ha.row i x hs
  obtain⟨qb,qo,rfl,hqb,hqu,hqz,hqr⟩:=hb.row i x hs
  simp only[rep_str,sz_str,hvs_1,List.cons.injEq,and_true]at hpr hpu hpz hqr hqu hqz
  simp(disch:=first|omega|(simp only[zz];try omega;done)) only[↓reduceIte,go_sem,lwNames_L1,e0,e1,e5,hlt,hpr,hqr]
  refine⟨i+1,?_,by omega⟩
  rw[hI]
  exact⟨by simp [upd,e0],by simp [upd,e1],by simp [upd],hlt,rfl⟩
 ·obtain rfl:i=l.length:=by omega
  simp(disch:=first|omega|(simp only[zz];try omega;done)) only[↓reduceIte,go_sem,lwNames_L1,e0,e5]
  exact hK
end Go.Proofs.YtmjinnbdnpedcaaGreat
end Merged
end Merged
section Merged
namespace Edict
def isA(l:Literal):Bool:=decide (l.1=1∨l.1=2)
def atomsL(ls:List Literal):List Atom:=(ls.filter isA).map (·.2.1)
def atomsC(c:Clause):List Atom:=c.1::atomsL c.2
def termsC(c:Clause):List Term:=c.1.2.1++c.2.flatMap termsL
def arOf(ps:List Pred)(s:List UInt8):Option Int:=(ps.find? fun p=>decide (p.1=s)).map (·.2)
def clashF:List Pred→List Atom→List Pred×Int×Int
 |ps,[]=>(ps,0,0)
 |ps,a::l=>match arOf ps a.1 with
  |some n=>if n=a.2.1.length then clashF ps l else(ps,30,a.2.2)
  |none=>if 128≤ps.length then(ps,31,a.2.2)else clashF (ps++[(a.1,(a.2.1.length:Int))]) l
def crowdF:Strs→List Term→Option Term
 |_,[]=>none
 |vs,t::l=>if 16<(varT vs t).length then some t else crowdF (varT vs t) l
def looseO(c:Clause):Option Term:=(allTerms c).find? (looseB (varsF c.2))
def cnst(t:Term):Const:=(t.1,t.2.1,t.2.2.1)
def valT(cs:List Const)(t:Term):List Const:=if t.1=4∨cnst t∈cs then cs else cs++[cnst t]
def valF:List Const→List Term→List Const×Option Term
 |cs,[]=>(cs,none)
 |cs,t::l=>if t.1≠4∧cnst t ∉ cs∧65536≤cs.length then(cs,some t)else valF (valT cs t) l
def namT(ps:List Pred)(a:Atom):List Pred:=if a.1∈ps.map (·.1)then ps else ps++[(a.1,(a.2.1.length:Int))]
def posL{κ:Type} [DecidableEq κ](l:List κ)(s:κ):Option Int:=if s∈l then some ((l.idxOf s:Nat):Int)else none
def idL{κ:Type} [DecidableEq κ](l:List κ)(s:κ):Int:=(posL l s).getD 0
def lastL(l:Strs)(s:List UInt8):Option Int:=if s∈l then some (((l.length - 1 - l.reverse.idxOf s:Nat)):Int)else none
def lastI(l:Strs)(s:List UInt8):Int:=(lastL l s).getD 0
def slotN(cs:List Const)(vs:Strs)(t:Term):Slot:=if t.1=4 then(true,lastI vs t.2.2.1)else(false,idL cs (cnst t))
def slotP(cs:List Const)(vs:Strs)(t:Term):Slot:=slotN cs (varT vs t) t
def slotsP(cs:List Const):Strs→List Term→List Slot
 |_,[]=>[]
 |vs,t::l=>slotP cs vs t::slotsP cs (varT vs t) l
def pids(ps:List Pred)(s:List UInt8):Int:=idL (ps.map (·.1)) s
def posF(ps:List Pred)(cs:List Const):Strs→List Literal→List Pattern
 |_,[]=>[]
 |vs,l::r=>if l.1=1 then(pids ps l.2.1.1,slotsP cs vs l.2.1.2.1)::posF ps cs (varL vs l) r else posF ps cs vs r
def testF(cs:List Const)(vs:Strs)(l:Literal):Test:=(l.2.2.1,slotN cs vs l.2.2.2.1,slotN cs vs l.2.2.2.2.1)
def patF(ps:List Pred)(cs:List Const)(vs:Strs)(a:Atom):Pattern:=(pids ps a.1,a.2.1.map (slotN cs vs))
def testsF(cs:List Const)(vs:Strs)(ls:List Literal):List Test:=(ls.filter fun l=>decide (l.1=3)).map (testF cs vs)
def negsF(ps:List Pred)(cs:List Const)(vs:Strs)(ls:List Literal):List Pattern:=(ls.filter fun l=>decide (l.1=2)).map fun l=>patF ps cs vs l.2.1
def ruleF(ps:List Pred)(cs:List Const)(hd:Pattern)(n:Int)(ls:List Literal):Rule:=(hd,posF ps cs [] ls,testsF cs (varsF ls) ls,negsF ps cs (varsF ls) ls,varsF ls,n)
def ruleC(ps:List Pred)(cs:List Const)(n:Int)(c:Clause):Rule:=ruleF ps cs (patF ps cs (varsF c.2) c.1) n c.2
def rowF(ps:List Pred)(cs:List Const)(a:Atom):Row:=(pids ps a.1,a.2.1.map fun t=>idL cs (cnst t))
def key9(r:Row):List Int:=(r.1::r.2)++List.replicate (8 - r.2.length) 0
def factT(l:List Row)(r:Row):List Row:=if key9 r∈l.map key9 then l else l++[r]
def stepR(ps:List Pred)(cs:List Const)(st:List Rule×List Row)(n:Nat)(c:Clause):List Rule×List Row:=
 if c.2=[]then(st.1,factT st.2 (rowF ps cs c.1))else(st.1++[ruleC ps cs n c],st.2)
def rulesF(ps:List Pred)(cs:List Const):List Rule×List Row→Nat→List Clause→List Rule×List Row
 |st,_,[]=>st
 |st,n,c::l=>rulesF ps cs (stepR ps cs st n c) (n+1) l
def takeF:List Pred×List Const→List Clause→(List Pred×List Const)×Option Term
 |st,[]=>(st,none)
 |st,c::l=>match valF st.2 (termsC c)with
  |(cs,none)=>takeF ((atomsC c).foldl namT st.1,cs) l
  |(cs,some t)=>(((atomsC c).foldl namT st.1,cs),some t)
def takeA:List Const→List Atom→List Const×Option Term
 |cs,[]=>(cs,none)
 |cs,a::l=>match valF cs a.2.1 with
  |(cs,none)=>takeA cs l
  |(cs,some t)=>(cs,some t)
abbrev Flt:=Int×Int×Int
def grB(a:Atom):Bool:=decide (atomW a=0) && a.2.1.all fun t=> !decide (t.1=4)
def formF(p:List Clause)(fs:List Atom):Flt:=
 if wellW p≠0 then(wellW p,0,0)
 else if 4096<fs.length then(24,1,0)
 else match fs.find? fun a=> !grB a with
  |some a=>(2,1,a.2.2)
  |none=>match clashF [] (p.flatMap atomsC)with
   |(_,30,o)=>(30,0,o)
   |(_,31,o)=>(31,0,o)
   |(ps,_)=>match clashF ps fs with
    |(_,30,o)=>(30,1,o)
    |(_,31,o)=>(31,1,o)
    |_=>(0,0,0)
def boundC(c:Clause):Flt:=match crowdF [] (termsC c)with
 |some t=>(32,0,t.2.2.2)
 |none=>match looseO c with
  |some t=>(33,0,t.2.2.2)
  |none=>(0,0,0)
def boundF:List Clause→Flt
 |[]=>(0,0,0)
 |c::l=>if boundC c=(0,0,0)then boundF l else boundC c
def core0:Core:=([],[],[],[])
def buildF(p:List Clause)(fs:List Atom):Core×Flt:=
 if formF p fs≠(0,0,0)then(core0,formF p fs)
 else if boundF p≠(0,0,0)then(core0,boundF p)
 else match takeF ([],[]) p with
  |(_,some t)=>(core0,6,0,t.2.2.2)
  |((ps,cs),none)=>match takeA cs fs with
   |(_,some t)=>(core0,6,1,t.2.2.2)
   |(cs,none)=>
    let ps:=fs.foldl namT ps
    let st:=rulesF ps cs ([],[]) 0 p
    ((ps,cs,st.1,fs.foldl (fun l a=>factT l (rowF ps cs a)) st.2),0,0,0)
theorem posL_snoc{κ:Type} [DecidableEq κ]{l:List κ}{s:κ}(h:s ∉ l)(t:κ):posL (l++[s]) t=if t=s then some (l.length:Int)else posL l t:=by
 unfold posL
 by_cases e:t=s
 ·subst e
  rw[if_pos rfl,if_pos (by simp),List.idxOf_append,if_neg h]
  simp
 ·rw[if_neg e]
  by_cases m:t∈l
  ·rw[if_pos m,if_pos (by simp [m]),List.idxOf_append,if_pos m]
  ·rw[if_neg m,if_neg (by simp [m,e])]
theorem posL_some{κ:Type} [DecidableEq κ]{l:List κ}{s:κ}:(posL l s).isSome=true↔s∈l:=by
 unfold posL;split<;>simp_all
theorem lastL_snoc(l:Strs)(s t:List UInt8):lastL (l++[s]) t=if t=s then some (l.length:Int)else lastL l t:=by
 unfold lastL
 by_cases e:t=s
 ·subst e
  rw[if_pos rfl,if_pos (by simp),List.reverse_append]
  simp
 ·rw[if_neg e]
  by_cases m:t∈l
  ·rw[if_pos m,if_pos (by simp [m]),List.reverse_append]
   have h2:(s == t)=false:=by simpa using fun h=>e h.symm
   simp only[List.reverse_cons,List.reverse_nil,List.nil_append,List.singleton_append,List.idxOf_cons,h2,List.length_append,List.length_cons,List.length_nil,cond_false]
   congr 2;omega
  ·rw[if_neg m,if_neg (by simp [m,e])]
theorem lastL_some{l:Strs}{s:List UInt8}:(lastL l s).isSome=true↔s∈l:=by
 unfold lastL;split<;>simp_all
end Edict
end Merged
