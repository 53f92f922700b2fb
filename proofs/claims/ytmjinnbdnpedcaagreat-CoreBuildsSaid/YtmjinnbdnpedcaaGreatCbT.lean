/- The reference's Build, plainly: it is core's Build. -/
import Derived.Test.YtmjinnbdnpedcaaGreatCbS
import Derived.Test.YtmjinnbdnpedcaaGreatKcD
namespace Edict
def posI{κ:Type} [DecidableEq κ](l:List κ)(s:κ):Int:=(posL l s).getD (-1)
theorem posI_in{κ:Type} [DecidableEq κ]{l:List κ}{s:κ}(h:s∈l):posI l s=idL l s:=by unfold posI idL posL;rw[if_pos h];rfl
theorem posI_out{κ:Type} [DecidableEq κ]{l:List κ}{s:κ}(h:s ∉ l):posI l s= -1:=by unfold posI posL;rw[if_neg h];rfl
def predI(ps:List Pred)(s:Byts):Int:=posI (ps.map (·.1)) s
theorem predI_in{ps:List Pred}{s:Byts}(h:s∈ps.map (·.1)):predI ps s=pids ps s:=posI_in h
theorem pos_first{κ:Type} [DecidableEq κ]{l:List κ}{s:κ}{i:Nat}(hn:s ∉ l.take i)(hi:l[i]? =some s):posI l s=i:=by
 have hm:s∈l:=List.mem_of_getElem? hi
 unfold posI posL
 rw[if_pos hm]
 show((l.idxOf s:Nat):Int)=i
 have e:l=l.take i++l.drop i:=(List.take_append_drop i l).symm
 have hl:=(List.getElem?_eq_some_iff.1 hi).1
 have hd:l.drop i=s::l.drop (i+1):=by
  obtain⟨h1,h2⟩:=List.getElem?_eq_some_iff.1 hi
  rw[List.drop_eq_getElem_cons h1,h2]
 rw[e,List.idxOf_append,if_neg hn,hd,List.idxOf_cons_self,List.length_take]
 omega
theorem arOf_first: ∀{ps:List Pred} {s:Byts} {i:Nat} {n:Int},s ∉ (ps.map (·.1)).take i→ps[i]? =some (s,n)→arOf ps s=some n
 |[],_,_,_,_,h=>by simp at h
 |p::ps,s,0,n,_,h=>by
  simp only[List.getElem?_cons_zero,Option.some.injEq]at h
  subst h
  simp [arOf]
 |p::ps,s,i+1,n,hn,h=>by
  simp only[List.map_cons,List.take_succ_cons,List.mem_cons,not_or]at hn
  have ih:=arOf_first (ps:=ps) hn.2 (by simpa using h)
  unfold arOf at ih ⊢
  rw[List.find?_cons_of_neg (by simpa using fun e=>hn.1 e.symm)]
  exact ih
/-! ### Names -/
def rpF:List Pred→List Stood→List Pred×Flt
 |ps,[]=>(ps,0,0,0)
 |ps,(a,k)::l=>match arOf ps a.1 with
  |some n=>if n=a.2.1.length then rpF ps l else([],30,k,a.2.2)
  |none=>if 128≤ps.length then([],31,k,a.2.2)else rpF (ps++[(a.1,(a.2.1.length:Int))]) l
theorem rpF_cons(ps:List Pred)(a:Atom)(k:Int)(l:List Stood):rpF ps ((a,k)::l)=match arOf ps a.1 with
  |some n=>if n=a.2.1.length then rpF ps l else([],30,k,a.2.2)
  |none=>if 128≤ps.length then([],31,k,a.2.2)else rpF (ps++[(a.1,(a.2.1.length:Int))]) l:=rfl
theorem rpF_clash(k:Int): ∀(l:List Atom) (ps:List Pred),rpF ps (l.map fun a=>(a,k))=if(clashF ps l).2.1=0 then((clashF ps l).1,0,0,0)else([],(clashF ps l).2.1,k,(clashF ps l).2.2)
 |[],ps=>by simp [rpF,clashF]
 |a::l,ps=>by
  rw[List.map_cons]
  unfold rpF clashF
  cases arOf ps a.1 with
  |some n=>
   simp only
   split
   ·exact rpF_clash k l ps
   ·simp
  |none=>
   simp only
   split
   ·simp
   ·exact rpF_clash k l _
theorem rpF_app: ∀(a b:List Stood) (ps:List Pred),rpF ps (a++b)=if(rpF ps a).2.1=0 then rpF (rpF ps a).1 b else rpF ps a
 |[],b,ps=>by simp [rpF]
 |(x,k)::a,b,ps=>by
  rw[List.cons_append,rpF_cons ps x k (a++b),rpF_cons ps x k a]
  cases arOf ps x.1 with
  |some n=>
   simp only
   by_cases e:n=(x.2.1.length:Int)
   ·rw[if_pos e,if_pos e];exact rpF_app a b ps
   ·rw[if_neg e,if_neg e];simp
  |none=>
   simp only
   by_cases e:128≤ps.length
   ·rw[if_pos e,if_pos e];simp
   ·rw[if_neg e,if_neg e];exact rpF_app a b _
theorem clash_codeR: ∀(l:List Atom) (ps:List Pred),((clashF ps l).2.1=0∧(clashF ps l).2.2=0∧(clashF ps l).1=l.foldl namT ps)∨(clashF ps l).2.1=30∨(clashF ps l).2.1=31
 |[],ps=>by simp [clashF]
 |a::l,ps=>by
  unfold clashF
  rw[List.foldl_cons]
  cases h:arOf ps a.1 with
  |some n=>
   simp only
   split
   ·have hm:a.1∈ps.map (·.1):=by
     refine Decidable.byContradiction fun hn=> ?_
     rw[arOf_none.2 hn]at h;cases h
    have e:namT ps a=ps:=by unfold namT;rw[if_pos hm]
    rw[e];exact clash_codeR l ps
   ·exact .inr (.inl rfl)
  |none=>
   simp only
   split
   ·exact .inr (.inr rfl)
   ·have hm:=arOf_none.1 h
    have e:namT ps a=ps++[(a.1,(a.2.1.length:Int))]:=by unfold namT;rw[if_neg hm]
    rw[e];exact clash_codeR l _
theorem arOf_keep1{ps:List Pred}{s t:Byts}{n m:Int}(h:arOf ps s=some n):arOf (ps++[(t,m)]) s=some n:=by
 unfold arOf at h ⊢
 rw[List.find?_append]
 cases hf:ps.find? fun p=>decide (p.1=s)with
 |none=>rw[hf]at h;cases h
 |some x=>rw[hf]at h;simpa using h
theorem clash_keep: ∀{l:List Atom} {ps:List Pred} {s:Byts} {n:Int},(clashF ps l).2.1=0→arOf ps s=some n→arOf (clashF ps l).1 s=some n
 |[],_,_,_,_,h=>h
 |a::l,ps,s,n,h0,h=>by
  unfold clashF at h0 ⊢
  cases hc:arOf ps a.1 with
  |some k=>
   rw[hc]at h0
   simp only at h0 ⊢
   split
   ·rename_i e;rw[if_pos e]at h0;exact clash_keep h0 h
   ·rename_i e;rw[if_neg e]at h0;cases h0
  |none=>
   rw[hc]at h0
   simp only at h0 ⊢
   split
   ·rename_i e;rw[if_pos e]at h0;cases h0
   ·rename_i e;rw[if_neg e]at h0;exact clash_keep h0 (arOf_keep1 h)
theorem clash_ar: ∀{l:List Atom} {ps:List Pred},(clashF ps l).2.1=0→ ∀a∈l,arOf (clashF ps l).1 a.1=some (a.2.1.length:Int)
 |[],_,_,a,ha=>by simp at ha
 |b::l,ps,h0,a,ha=>by
  unfold clashF at h0 ⊢
  cases hc:arOf ps b.1 with
  |some k=>
   rw[hc]at h0
   simp only at h0 ⊢
   split
   ·rename_i e
    rw[if_pos e]at h0
    rcases List.mem_cons.1 ha with rfl|ha
    ·exact clash_keep h0 (by rw[hc,e])
    ·exact clash_ar h0 a ha
   ·rename_i e;rw[if_neg e]at h0;cases h0
  |none=>
   rw[hc]at h0
   simp only at h0 ⊢
   split
   ·rename_i e;rw[if_pos e]at h0;cases h0
   ·rename_i e
    rw[if_neg e]at h0
    rcases List.mem_cons.1 ha with rfl|ha
    ·refine clash_keep h0 ?_
     unfold arOf
     rw[List.find?_append]
     have:(ps.find? fun p=>decide (p.1=a.1))=none:=by
      unfold arOf at hc
      cases hf:ps.find? fun p=>decide (p.1=a.1)with
      |none=>rfl
      |some x=>rw[hf]at hc;cases hc
     rw[this];simp
    ·exact clash_ar h0 a ha
def stoodsF(p:List Clause)(fs:List Atom):List Stood:=(p.flatMap atomsC).map (fun a=>(a,(0:Int)))++fs.map (fun a=>(a,(1:Int)))
def gvF(p:List Clause)(fs:List Atom):Flt:=
 if wellW p≠0 then(wellW p,0,0)
 else if 4096<fs.length then(24,1,0)
 else match fs.find? fun a=> !grB a with
  |some a=>(2,1,a.2.2)
  |none=>(0,0,0)
theorem form_split(p:List Clause)(fs:List Atom):formF p fs=if gvF p fs≠(0,0,0)then gvF p fs else(rpF [] (stoodsF p fs)).2:=by
 unfold formF gvF
 by_cases h1:wellW p≠0
 ·rw[if_pos h1,if_pos h1,if_pos (by simp [h1])]
 ·rw[if_neg h1,if_neg h1]
  by_cases h2:4096<fs.length
  ·rw[if_pos h2,if_pos h2,if_pos (by simp)]
  ·rw[if_neg h2,if_neg h2]
   cases hf:fs.find? fun a=> !grB a with
   |some a=>simp
   |none=>
    simp only[ne_eq,not_true_eq_false,if_false]
    unfold stoodsF
    rw[rpF_app,rpF_clash]
    have hc:=clash_codeR (p.flatMap atomsC) []
    generalize clashF [] (p.flatMap atomsC)=r at hc ⊢
    obtain⟨P,c,o⟩:=r
    simp only at hc
    rcases hc with⟨rfl,rfl,-⟩|rfl|rfl
    ·simp only[if_true]
     rw[rpF_clash]
     have hk:=clash_codeR fs P
     generalize clashF P fs=r at hk ⊢
     obtain⟨P',c',o'⟩:=r
     simp only at hk
     rcases hk with⟨rfl,rfl,-⟩|rfl|rfl
     ·simp
     ·rfl
     ·rfl
    ·rfl
    ·rfl
/-! ### Constants -/
def enumF:Nat→List (Term×Int)→List Put
 |_,[]=>[]
 |n,(t,k)::l=>(t,k,(n:Int))::enumF (n+1) l
theorem enum_len: ∀(l:List (Term×Int)) (n:Nat),(enumF n l).length=l.length
 |[],_=>rfl
 |(t,k)::l,n=>by rw[enumF,List.length_cons,List.length_cons,enum_len l]
theorem enum_app: ∀(a b:List (Term×Int)) (n:Nat),enumF n (a++b)=enumF n a++enumF (n+a.length) b
 |[],b,n=>by simp [enumF]
 |(t,k)::a,b,n=>by
  rw[List.cons_append,enumF,enumF,enum_app a b (n+1),List.cons_append,List.length_cons]
  congr 3;omega
theorem enum_fst: ∀(l:List (Term×Int)) (n:Nat),(enumF n l).map (·.1)=l.map (·.1)
 |[],_=>rfl
 |(t,k)::l,n=>by rw[enumF,List.map_cons,List.map_cons,enum_fst l]
theorem enum_ge: ∀(l:List (Term×Int)) (n:Nat),∀x∈enumF n l,(n:Int)≤x.2.2
 |[],_,x,h=>by simp [enumF]at h
 |(t,k)::l,n,x,h=>by
  rw[enumF]at h
  rcases List.mem_cons.1 h with rfl|h
  ·exact Int.le_refl _
  ·have:=enum_ge l (n+1) x h;omega
theorem enum_up: ∀(l:List (Term×Int)) (n:Nat),(enumF n l).Pairwise fun x y=>x.2.2<y.2.2
 |[],_=> .nil
 |(t,k)::l,n=>by
  rw[enumF]
  refine List.pairwise_cons.2 ⟨fun y hy=> ?_,enum_up l (n+1)⟩
  have:=enum_ge l (n+1) y hy
  show(n:Int)<y.2.2
  omega
theorem enum_text: ∀(l:List (Term×Int)) (n:Nat) {k:Int},(∀x∈l,x.2=k)→ ∀x∈enumF n l,x.2.1=k
 |[],_,_,_,x,h=>by simp [enumF]at h
 |(t,j)::l,n,k,hk,x,h=>by
  rw[enumF]at h
  rcases List.mem_cons.1 h with rfl|h
  ·exact hk (t,j) (List.mem_cons_self ..)
  ·exact enum_text l (n+1) (fun y hy=>hk y (List.mem_cons_of_mem _ hy)) x h
def rawP(p:List Clause):List (Term×Int):=(p.flatMap termsC).map fun t=>(t,(0:Int))
def rawA(fs:List Atom):List (Term×Int):=(fs.flatMap (·.2.1)).map fun t=>(t,(1:Int))
def putsF(p:List Clause)(fs:List Atom):List Put:=enumF 0 (rawP p++rawA fs)
theorem valF_app: ∀(a b:List Term) (cs:List Const),valF cs (a++b)=match valF cs a with|(cs',none)=>valF cs' b|(cs',some t)=>(cs',some t)
 |[],b,cs=>by simp [valF]
 |t::a,b,cs=>by
  have hc: ∀l,valF cs (t::l)=if t.1≠4∧cnst t ∉ cs∧65536≤cs.length then(cs,some t)else valF (valT cs t) l:=fun _=>rfl
  rw[List.cons_append,hc,hc]
  by_cases e:t.1≠4∧cnst t ∉ cs∧65536≤cs.length
  ·rw[if_pos e,if_pos e]
  ·rw[if_neg e,if_neg e];exact valF_app a b _
theorem takeF_val: ∀(l:List Clause) (ps:List Pred) (cs:List Const),(takeF (ps,cs) l).2=(valF cs (l.flatMap termsC)).2∧((takeF (ps,cs) l).2=none→(takeF (ps,cs) l).1=((l.flatMap atomsC).foldl namT ps,(valF cs (l.flatMap termsC)).1))
 |[],ps,cs=>by simp [takeF,valF]
 |c::l,ps,cs=>by
  rw[List.flatMap_cons,List.flatMap_cons,List.foldl_append,valF_app]
  unfold takeF
  rcases hv:valF cs (termsC c)with⟨cs',o⟩
  cases o with
  |none=>simp only;exact takeF_val l _ cs'
  |some t=>simp
theorem takeA_val: ∀(l:List Atom) (cs:List Const),takeA cs l=valF cs (l.flatMap (·.2.1))
 |[],cs=>by simp [takeA,valF]
 |a::l,cs=>by
  rw[List.flatMap_cons,valF_app]
  unfold takeA
  rcases hv:valF cs a.2.1 with⟨cs',o⟩
  cases o with
  |none=>simp only;exact takeA_val l cs'
  |some t=>rfl
/-! ### Rules, rows -/
def slotR(cs:List Const)(vs:Strs)(t:Term):Slot:=if t.1=4 then(true,posI vs t.2.2.1)else(false,idL cs (cnst t))
def slotsR(cs:List Const):Strs→List Term→List Slot
 |_,[]=>[]
 |vs,t::l=>(if looseB vs t then(true,(vs.length:Int))else slotR cs vs t)::slotsR cs (varT vs t) l
theorem loose_iff{vs:Strs}{t:Term}:looseB vs t=true↔t.1=4∧(t.2.2.1=[95]∨t.2.2.1 ∉ vs):=by
 unfold looseB;simp
theorem last_uniq{vs:Strs}{s:Byts}(hu:uniq vs)(h95:s≠[95])(h:s∈vs):posI vs s=lastI vs s:=by
 have hr:=List.mem_reverse.2 h
 have hi:=List.idxOf_lt_length_of_mem hr
 have e:vs.reverse[vs.reverse.idxOf s]'hi=s:=List.getElem_idxOf hi
 rw[List.getElem_reverse]at e
 rw[List.length_reverse]at hi
 have hg:vs[vs.length - 1 - vs.reverse.idxOf s]? =some s:=by rw[List.getElem?_eq_getElem (by omega),e]
 rw[pos_first (hu _ s hg h95) hg]
 unfold lastI lastL
 rw[if_pos h];rfl
theorem slotR_eq{cs:List Const}{vs:Strs}{t:Term}(hu:uniq vs)(hl:looseB vs t=false):slotR cs vs t=slotN cs vs t:=by
 unfold slotR slotN
 split
 ·rename_i h4
  have: ¬(t.1=4∧(t.2.2.1=[95]∨t.2.2.1 ∉ vs)):=fun h=>by rw[loose_iff.2 h]at hl;cases hl
  have h95:t.2.2.1≠[95]:=fun e=>this ⟨h4,.inl e⟩
  have hm:t.2.2.1∈vs:=Decidable.byContradiction fun e=>this ⟨h4,.inr e⟩
  rw[last_uniq hu h95 hm]
 ·rfl
theorem slotsR_eq(cs:List Const): ∀(l:List Term) (vs:Strs),uniq vs→slotsR cs vs l=slotsP cs vs l
 |[],_,_=>rfl
 |t::l,vs,hu=>by
  unfold slotsR slotsP
  rw[slotsR_eq cs l _ (uniq_varT hu t)]
  congr 1
  unfold slotP
  by_cases h:looseB vs t=true
  ·rw[if_pos h]
   have h':=loose_iff.1 h
   have hv:varT vs t=vs++[t.2.2.1]:=by unfold varT;rw[if_pos h']
   rw[hv]
   unfold slotN lastI
   rw[if_pos h'.1,lastL_snoc,if_pos rfl];rfl
  ·have h:looseB vs t=false:=by simpa using h
   have hv:varT vs t=vs:=by unfold varT;rw[if_neg fun e=>by rw[loose_iff.2 e]at h;cases h]
   rw[if_neg (by simp [h]),hv]
   exact slotR_eq hu h
def posR(ps:List Pred)(cs:List Const):Strs→List Literal→List Pattern
 |_,[]=>[]
 |vs,l::r=>if l.1=1 then(predI ps l.2.1.1,slotsR cs vs l.2.1.2.1)::posR ps cs (varL vs l) r else posR ps cs vs r
def testR(cs:List Const)(vs:Strs)(l:Literal):Test:=(l.2.2.1,slotR cs vs l.2.2.2.1,slotR cs vs l.2.2.2.2.1)
def patR(ps:List Pred)(cs:List Const)(vs:Strs)(a:Atom):Pattern:=(predI ps a.1,a.2.1.map (slotR cs vs))
def testsR(cs:List Const)(vs:Strs)(ls:List Literal):List Test:=(ls.filter fun l=>decide (l.1=3)).map (testR cs vs)
def negsR(ps:List Pred)(cs:List Const)(vs:Strs)(ls:List Literal):List Pattern:=(ls.filter fun l=>decide (l.1=2)).map fun l=>patR ps cs vs l.2.1
def ruleR(ps:List Pred)(cs:List Const)(n:Int)(c:Clause):Rule:=(patR ps cs (varsF c.2) c.1,posR ps cs [] c.2,testsR cs (varsF c.2) c.2,negsR ps cs (varsF c.2) c.2,varsF c.2,n)
def rowR(ps:List Pred)(cs:List Const)(a:Atom):Row:=(predI ps a.1,a.2.1.map fun t=>idL cs (cnst t))
def joinR(l:List Row)(r:Row):List Row:=if r∈l then l else l++[r]
def stepRR(ps:List Pred)(cs:List Const)(st:List Rule×List Row)(n:Nat)(c:Clause):List Rule×List Row:=
 if c.2=[]then(st.1,joinR st.2 (rowR ps cs c.1))else(st.1++[ruleR ps cs n c],st.2)
def rulesRR(ps:List Pred)(cs:List Const):List Rule×List Row→Nat→List Clause→List Rule×List Row
 |st,_,[]=>st
 |st,n,c::l=>rulesRR ps cs (stepRR ps cs st n c) (n+1) l
def refC(p:List Clause)(fs:List Atom)(ps:List Pred)(cs:List Const):Core:=
 (ps,cs,(rulesRR ps cs ([],[]) 0 p).1,fs.foldl (fun l a=>joinR l (rowR ps cs a)) (rulesRR ps cs ([],[]) 0 p).2)
def refF(p:List Clause)(fs:List Atom):Core×Flt:=
 if gvF p fs≠(0,0,0)then(core0,gvF p fs)
 else if(rpF [] (stoodsF p fs)).2≠(0,0,0)then(core0,(rpF [] (stoodsF p fs)).2)
 else if boundF p≠(0,0,0)then(core0,boundF p)
 else match(firstsF [] (putsF p fs))[65536]? with
  |some x=>(core0,6,x.2.1,x.1.2.2.2)
  |none=>(refC p fs (rpF [] (stoodsF p fs)).1 ((firstsF [] (putsF p fs)).map fun x=>cnst x.1),0,0,0)
theorem posR_eq(ps:List Pred)(cs:List Const): ∀(ls:List Literal) (vs:Strs),uniq vs→(∀x∈ls,x.1=1→x.2.1.1∈ps.map (·.1))→posR ps cs vs ls=posF ps cs vs ls
 |[],_,_,_=>rfl
 |x::ls,vs,hu,hp=>by
  unfold posR posF
  have hp': ∀y∈ls,y.1=1→y.2.1.1∈ps.map (·.1):=fun y hy=>hp y (List.mem_cons_of_mem _ hy)
  split
  ·rename_i h1
   rw[predI_in (hp x (List.mem_cons_self ..) h1),slotsR_eq cs _ vs hu,posR_eq ps cs ls _ ?_ hp']
   unfold varL;rw[if_pos h1];exact uniq_fold _ hu
  ·exact posR_eq ps cs ls vs hu hp'
theorem mapR_eq{cs:List Const}{vs:Strs}{l:List Term}(hu:uniq vs)(h: ∀t∈l,looseB vs t=false):l.map (slotR cs vs)=l.map (slotN cs vs):=List.map_congr_left fun t ht=>slotR_eq hu (h t ht)
theorem ruleR_eq{ps:List Pred}{cs:List Const}{n:Int}{c:Clause}(hb:boundC c=(0,0,0))(hp: ∀a∈atomsC c,a.1∈ps.map (·.1)):ruleR ps cs n c=ruleC ps cs n c:=by
 have hl:=(boundC_some hb).2
 have hlo: ∀t∈allTerms c,looseB (varsF c.2) t=false:=by
  unfold looseO at hl
  rw[List.find?_eq_none]at hl
  intro t ht
  simpa using hl t ht
 have hask: ∀x∈c.2,∀t∈askL x,looseB (varsF c.2) t=false:=fun x hx t ht=>hlo t (by unfold allTerms;exact List.mem_append.2 (.inr (List.mem_flatMap.2 ⟨x,hx,ht⟩)))
 have hu:=uniq_vars c.2
 have hpl: ∀x∈c.2,x.1=1∨x.1=2→x.2.1.1∈ps.map (·.1):=fun x hx hk=>hp x.2.1 (by unfold atomsC atomsL;exact List.mem_cons_of_mem _ (List.mem_map.2 ⟨x,List.mem_filter.2 ⟨hx,by unfold isA;simpa using hk⟩,rfl⟩))
 unfold ruleR ruleC ruleF
 have e1:patR ps cs (varsF c.2) c.1=patF ps cs (varsF c.2) c.1:=by
  unfold patR patF
  rw[predI_in (hp c.1 (by unfold atomsC;exact List.mem_cons_self ..)),mapR_eq hu fun t ht=>hlo t (by unfold allTerms;exact List.mem_append.2 (.inl ht))]
 have e2:posR ps cs [] c.2=posF ps cs [] c.2:=posR_eq ps cs c.2 [] (fun i s h=>by simp at h) fun x hx h1=>hpl x hx (.inl h1)
 have e3:testsR cs (varsF c.2) c.2=testsF cs (varsF c.2) c.2:=by
  unfold testsR testsF
  refine List.map_congr_left fun x hx=> ?_
  obtain⟨hx,hk⟩:=List.mem_filter.1 hx
  have hk:x.1=3:=of_decide_eq_true hk
  have ha: ∀t∈[x.2.2.2.1,x.2.2.2.2.1],looseB (varsF c.2) t=false:=fun t ht=>hask x hx t (by unfold askL;rw[if_neg (by omega),if_pos hk];exact ht)
  unfold testR testF
  rw[slotR_eq hu (ha _ (by simp)),slotR_eq hu (ha _ (by simp))]
 have e4:negsR ps cs (varsF c.2) c.2=negsF ps cs (varsF c.2) c.2:=by
  unfold negsR negsF
  refine List.map_congr_left fun x hx=> ?_
  obtain⟨hx,hk⟩:=List.mem_filter.1 hx
  have hk:x.1=2:=of_decide_eq_true hk
  unfold patR patF
  rw[predI_in (hpl x hx (.inr hk)),mapR_eq hu fun t ht=>hask x hx t (by unfold askL;rw[if_pos hk];exact ht)]
 rw[e1,e2,e3,e4]
def InP(ps:List Pred)(a:Atom):Prop:=a.1∈ps.map (·.1)∧a.2.1.length≤8∧arOf ps a.1=some (a.2.1.length:Int)
theorem rowR_eq{ps:List Pred}{cs:List Const}{a:Atom}(h:InP ps a):rowR ps cs a=rowF ps cs a:=by
 unfold rowR rowF;rw[predI_in h.1]
theorem idL_inj{κ:Type} [DecidableEq κ]{l:List κ}{s t:κ}(hs:s∈l)(ht:t∈l)(h:idL l s=idL l t):s=t:=by
 unfold idL posL at h
 rw[if_pos hs,if_pos ht]at h
 have h:((l.idxOf s:Nat):Int)=((l.idxOf t:Nat):Int):=h
 have h:l.idxOf s=l.idxOf t:=by omega
 have e1:=List.getElem_idxOf (List.idxOf_lt_length_of_mem hs)
 have e2:=List.getElem_idxOf (List.idxOf_lt_length_of_mem ht)
 rw[←e1,←e2]
 simp only[h]
theorem row_key{ps:List Pred}{cs:List Const}{a b:Atom}(ha:InP ps a)(hb:InP ps b):key9 (rowF ps cs a)=key9 (rowF ps cs b)↔rowF ps cs a=rowF ps cs b:=by
 refine⟨fun h=> ?_,fun h=>by rw[h]⟩
 unfold key9 at h
 simp only[List.cons_append,List.cons.injEq]at h
 have h1:pids ps a.1=pids ps b.1:=h.1
 have hn:a.1=b.1:=idL_inj ha.1 hb.1 h1
 have hlen:a.2.1.length=b.2.1.length:=by
  have e1:=ha.2.2
  rw[hn,hb.2.2]at e1
  have:=Option.some.inj e1;omega
 have:=List.append_inj_left h.2 (by unfold rowF;simp [hlen])
 exact Prod.ext h1 this
theorem join_one{ps:List Pred}{cs:List Const}{a:Atom}{az:List Atom}(ha:InP ps a)(hz: ∀b∈az,InP ps b):factT (az.map (rowF ps cs)) (rowF ps cs a)=joinR (az.map (rowF ps cs)) (rowR ps cs a)∧ ∃bz:List Atom,joinR (az.map (rowF ps cs)) (rowR ps cs a)=bz.map (rowF ps cs)∧ ∀b∈bz,InP ps b:=by
 rw[rowR_eq ha]
 unfold factT joinR
 have hiff:key9 (rowF ps cs a)∈(az.map (rowF ps cs)).map key9↔rowF ps cs a∈az.map (rowF ps cs):=by
  constructor
  ·intro h
   obtain⟨r,hr,e⟩:=List.mem_map.1 h
   obtain⟨b,hb,rfl⟩:=List.mem_map.1 hr
   rw[←(row_key (hz b hb) ha).1 e]
   exact hr
  ·intro h;exact List.mem_map.2 ⟨_,h,rfl⟩
 by_cases h:rowF ps cs a∈az.map (rowF ps cs)
 ·rw[if_pos (hiff.2 h),if_pos h]
  exact⟨rfl,az,rfl,hz⟩
 ·rw[if_neg (fun e=>h (hiff.1 e)),if_neg h]
  refine⟨rfl,az++[a],by rw[List.map_append];rfl,fun b hb=> ?_⟩
  rcases List.mem_append.1 hb with hb|hb
  ·exact hz b hb
  ·rcases List.mem_singleton.1 hb with rfl;exact ha
theorem rules_eq{ps:List Pred}{cs:List Const}: ∀(l:List Clause) (st:List Rule×List Row) (n:Nat) (az:List Atom),st.2=az.map (rowF ps cs)→(∀b∈az,InP ps b)→(∀c∈l,boundC c=(0,0,0))→(∀c∈l,∀a∈atomsC c,InP ps a)→
  rulesRR ps cs st n l=rulesF ps cs st n l∧ ∃bz:List Atom,(rulesF ps cs st n l).2=bz.map (rowF ps cs)∧ ∀b∈bz,InP ps b
 |[],st,n,az,h1,h2,_,_=>⟨rfl,az,h1,h2⟩
 |c::l,st,n,az,h1,h2,h3,h4=>by
  unfold rulesRR rulesF
  have hc:=h4 c (List.mem_cons_self ..)
  have hb:=h3 c (List.mem_cons_self ..)
  have h3': ∀c∈l,boundC c=(0,0,0):=fun d hd=>h3 d (List.mem_cons_of_mem _ hd)
  have h4': ∀c∈l,∀a∈atomsC c,InP ps a:=fun d hd=>h4 d (List.mem_cons_of_mem _ hd)
  by_cases he:c.2=[]
  ·have h0:=hc c.1 (by unfold atomsC;exact List.mem_cons_self ..)
   obtain⟨j1,bz,j2,j3⟩:=join_one (cs:=cs) h0 h2
   have e1:stepRR ps cs st n c=(st.1,bz.map (rowF ps cs)):=by unfold stepRR;rw[if_pos he,h1,j2]
   have e2:stepR ps cs st n c=(st.1,bz.map (rowF ps cs)):=by unfold stepR;rw[if_pos he,h1,j1,j2]
   rw[e1,e2]
   exact rules_eq l _ (n+1) bz rfl j3 h3' h4'
  ·have e1:stepRR ps cs st n c=stepR ps cs st n c:=by
    unfold stepRR stepR
    rw[if_neg he,if_neg he,ruleR_eq hb fun a ha=>(hc a ha).1]
   rw[e1]
   refine rules_eq l _ (n+1) az ?_ h2 h3' h4'
   unfold stepR;rw[if_neg he];exact h1
theorem facts_eq{ps:List Pred}{cs:List Const}: ∀(l:List Atom) (az:List Atom),(∀b∈az,InP ps b)→(∀a∈l,InP ps a)→l.foldl (fun r a=>joinR r (rowR ps cs a)) (az.map (rowF ps cs))=l.foldl (fun r a=>factT r (rowF ps cs a)) (az.map (rowF ps cs))
 |[],_,_,_=>rfl
 |a::l,az,h1,h2=>by
  obtain⟨j1,bz,j2,j3⟩:=join_one (cs:=cs) (h2 a (List.mem_cons_self ..)) h1
  rw[List.foldl_cons,List.foldl_cons,j1,j2]
  exact facts_eq l bz j3 fun x hx=>h2 x (List.mem_cons_of_mem _ hx)
theorem well_clauses{p:List Clause}(h:wellW p=0):p.length≤512∧ ∀c∈p,clauseW c=0:=by
 unfold wellW at h
 split at h
 ·cases h
 ·exact⟨by omega,firstW_all0 h⟩
theorem clause_atoms{c:Clause}(h:clauseW c=0):c.2.length≤16∧ ∀a∈atomsC c,atomW a=0:=by
 unfold clauseW at h
 split at h
 ·rename_i ha
  split at h
  ·cases h
  ·rename_i hl
   refine⟨by omega,fun a hm=> ?_⟩
   unfold atomsC atomsL at hm
   rcases List.mem_cons.1 hm with rfl|hm
   ·exact ha
   ·obtain⟨x,hx,rfl⟩:=List.mem_map.1 hm
    obtain⟨hx,hk⟩:=List.mem_filter.1 hx
    have hk:x.1=1∨x.1=2:=of_decide_eq_true hk
    have hw:=firstW_all0 h x hx
    unfold litW at hw
    rw[if_pos hk]at hw
    split at hw
    ·exact hw
    ·cases hw
 ·rename_i ha;exact absurd h ha
theorem gv_parts{p:List Clause}{fs:List Atom}(h:gvF p fs=(0,0,0)):wellW p=0∧fs.length≤4096∧ ∀a∈fs,grB a=true:=by
 unfold gvF at h
 split at h
 ·rename_i h1;exact absurd (congrArg Prod.fst h) h1
 ·rename_i h1
  split at h
  ·cases h
  ·rename_i h2
   cases hf:fs.find? fun a=> !grB a with
   |some a=>rw[hf]at h;cases h
   |none=>
    rw[List.find?_eq_none]at hf
    exact⟨Decidable.byContradiction h1,by omega,fun a ha=>by simpa using hf a ha⟩
theorem ref_build(p:List Clause)(fs:List Atom):refF p fs=buildF p fs:=by
 unfold refF buildF
 rw[form_split]
 by_cases h1:gvF p fs≠(0,0,0)
 ·rw[if_pos h1,if_pos h1,if_pos h1]
 ·rw[if_neg h1,if_neg h1]
  by_cases h2:(rpF [] (stoodsF p fs)).2≠(0,0,0)
  ·rw[if_pos h2,if_pos h2]
  ·rw[if_neg h2,if_neg h2]
   by_cases h3:boundF p≠(0,0,0)
   ·rw[if_pos h3,if_pos h3]
   ·rw[if_neg h3,if_neg h3]
    have h1:gvF p fs=(0,0,0):=Decidable.byContradiction h1
    have h2:(rpF [] (stoodsF p fs)).2=(0,0,0):=Decidable.byContradiction h2
    have h3:boundF p=(0,0,0):=Decidable.byContradiction h3
    obtain⟨g1,g2,g3⟩:=gv_parts h1
    obtain⟨w1,w2⟩:=well_clauses g1
    -- names
    have hps:(rpF [] (stoodsF p fs)).1=fs.foldl namT ((p.flatMap atomsC).foldl namT [])∧ ∀a,a∈p.flatMap atomsC∨a∈fs→arOf (rpF [] (stoodsF p fs)).1 a.1=some (a.2.1.length:Int):=by
     unfold stoodsF at h2 ⊢
     rw[rpF_app,rpF_clash]at h2 ⊢
     rcases clash_codeR (p.flatMap atomsC) []with⟨q1,q2,q3⟩|q|q
     ·rw[if_pos q1]at h2 ⊢
      simp only[if_true]at h2 ⊢
      rw[rpF_clash]at h2 ⊢
      rcases clash_codeR fs (clashF [] (p.flatMap atomsC)).1 with⟨k1,k2,k3⟩|k|k
      ·rw[if_pos k1]
       refine⟨by rw[k3,q3],fun a ha=> ?_⟩
       rcases ha with ha|ha
       ·exact clash_keep k1 (clash_ar q1 a ha)
       ·exact clash_ar k1 a ha
      ·have k': ¬(clashF (clashF [] (p.flatMap atomsC)).1 fs).2.1=0:=by rw[k];decide
       rw[if_neg k']at h2
       exact absurd (congrArg (fun x:Flt=>x.1) h2) k'
      ·have k': ¬(clashF (clashF [] (p.flatMap atomsC)).1 fs).2.1=0:=by rw[k];decide
       rw[if_neg k']at h2
       exact absurd (congrArg (fun x:Flt=>x.1) h2) k'
     ·have q': ¬(clashF [] (p.flatMap atomsC)).2.1=0:=by rw[q];decide
      rw[if_neg q',if_neg (show¬(clashF [] (p.flatMap atomsC)).2.1=0 from q')]at h2
      exact absurd (congrArg (fun x:Flt=>x.1) h2) q'
     ·have q': ¬(clashF [] (p.flatMap atomsC)).2.1=0:=by rw[q];decide
      rw[if_neg q',if_neg (show¬(clashF [] (p.flatMap atomsC)).2.1=0 from q')]at h2
      exact absurd (congrArg (fun x:Flt=>x.1) h2) q'
    obtain⟨hps1,hps2⟩:=hps
    -- constants
    have hraw:(rawP p).map (·.1)=p.flatMap termsC:=by unfold rawP;rw[List.map_map];exact List.map_id' _
    have hrawA:(rawA fs).map (·.1)=fs.flatMap (·.2.1):=by unfold rawA;rw[List.map_map];exact List.map_id' _
    have hput:putsF p fs=enumF 0 (rawP p)++enumF (0+(rawP p).length) (rawA fs):=enum_app _ _ _
    obtain⟨E1,hE1⟩: ∃E,E=enumF 0 (rawP p):=⟨_,rfl⟩
    obtain⟨E2,hE2⟩: ∃E,E=enumF (0+(rawP p).length) (rawA fs):=⟨_,rfl⟩
    rw[←hE1,←hE2]at hput
    have m1:E1.map (·.1)=p.flatMap termsC:=by rw[hE1,enum_fst,hraw]
    have m2:E2.map (·.1)=fs.flatMap (·.2.1):=by rw[hE2,enum_fst,hrawA]
    have t1: ∀x∈E1,x.2.1=0:=by rw[hE1];exact enum_text _ _ fun x hx=>by obtain⟨t,-,rfl⟩:=List.mem_map.1 hx;rfl
    have t2: ∀x∈E2,x.2.1=1:=by rw[hE2];exact enum_text _ _ fun x hx=>by obtain⟨t,-,rfl⟩:=List.mem_map.1 hx;rfl
    have v1:=valF_firsts E1 [] (Nat.zero_le _)
    rw[m1]at v1
    obtain⟨v1a,v1b⟩:=v1
    have hF1:=firstsF_vals E1 []
    rw[List.nil_append,m1]at hF1
    have hF:firstsF [] (putsF p fs)=firstsF [] E1++firstsF ((p.flatMap termsC).foldl valT []) E2:=by rw[hput,firstsF_app,m1]
    have hlen1:(firstsF [] E1).length=((p.flatMap termsC).foldl valT []).length:=by rw[←hF1,List.length_map]
    obtain⟨tk1,tk2⟩:=takeF_val p [] []
    rw[v1a]at tk1
    simp only[List.length_nil,Nat.sub_zero]at tk1 v1a
    cases hx:(firstsF [] E1)[65536]? with
    |some x=>
     rw[hx]at tk1
     have hxm:=(firstsF_sub E1 []).mem (List.mem_of_getElem? hx)
     rw[hF,List.getElem?_append_left (List.getElem?_eq_some_iff.1 hx).1,hx]
     simp only
     have htk:takeF ([],[]) p=((takeF ([],[]) p).1,some x.1):=Prod.ext rfl tk1
     rw[htk]
     simp only[t1 x hxm]
    |none=>
     rw[hx]at tk1 v1a
     simp only[Option.map_none]at tk1 v1a
     have hle:(firstsF [] E1).length≤65536:=List.getElem?_eq_none_iff.1 hx
     have tk2:=tk2 tk1
     rw[v1b v1a]at tk2
     have v2:=valF_firsts E2 ((p.flatMap termsC).foldl valT []) (by rw[←hlen1];exact hle)
     rw[m2]at v2
     obtain⟨v2a,v2b⟩:=v2
     have htk:takeF ([],[]) p=(((p.flatMap atomsC).foldl namT [],(p.flatMap termsC).foldl valT []),none):=Prod.ext tk2 tk1
     rw[htk]
     simp only
     rw[takeA_val,hF,List.getElem?_append_right hle,hlen1]
     cases hy:(firstsF ((p.flatMap termsC).foldl valT []) E2)[65536 - ((p.flatMap termsC).foldl valT []).length]? with
     |some y=>
      rw[hy]at v2a
      have hym:=(firstsF_sub E2 _).mem (List.mem_of_getElem? hy)
      have htv:valF ((p.flatMap termsC).foldl valT []) (fs.flatMap (·.2.1))=((valF ((p.flatMap termsC).foldl valT []) (fs.flatMap (·.2.1))).1,some y.1):=Prod.ext rfl v2a
      rw[htv]
      simp only[t2 y hym]
     |none=>
      rw[hy]at v2a
      have v2b:=v2b v2a
      have htv:valF ((p.flatMap termsC).foldl valT []) (fs.flatMap (·.2.1))=((fs.flatMap (·.2.1)).foldl valT ((p.flatMap termsC).foldl valT []),none):=Prod.ext v2b v2a
      rw[htv]
      simp only
      have hcs:(firstsF [] E1++firstsF ((p.flatMap termsC).foldl valT []) E2).map (fun x=>cnst x.1)=(fs.flatMap (·.2.1)).foldl valT ((p.flatMap termsC).foldl valT []):=by
       rw[List.map_append,hF1,firstsF_vals,m2]
      rw[hcs]
      obtain⟨C,hC⟩: ∃C,C=(fs.flatMap (·.2.1)).foldl valT ((p.flatMap termsC).foldl valT []):=⟨_,rfl⟩
      obtain⟨P,hP⟩: ∃P,P=(rpF [] (stoodsF p fs)).1:=⟨_,rfl⟩
      rw[←hC,←hP,←hps1,←hP]
      rw[←hP]at hps2
      have inP: ∀a,(a∈p.flatMap atomsC∨a∈fs)→InP P a:=fun a ha=>by
       have har:=hps2 a ha
       refine⟨?_,?_,har⟩
       ·refine Decidable.byContradiction fun hn=> ?_
        rw[arOf_none.2 hn]at har;cases har
       ·refine atomW_few ?_
        rcases ha with ha|ha
        ·obtain⟨c,hc,ha⟩:=List.mem_flatMap.1 ha
         exact(clause_atoms (w2 c hc)).2 a ha
        ·exact grB_w (g3 a ha)
      obtain⟨r1,bz,r2,r3⟩:=rules_eq (ps:=P) (cs:=C) p ([],[]) 0 [] rfl (fun b hb=>by simp at hb) (boundF_all h3) (fun c hc a ha=>inP a (.inl (List.mem_flatMap.2 ⟨c,hc,ha⟩)))
      unfold refC
      rw[r1,r2,facts_eq fs bz r3 fun a ha=>inP a (.inr ha),←r2]
end Edict
