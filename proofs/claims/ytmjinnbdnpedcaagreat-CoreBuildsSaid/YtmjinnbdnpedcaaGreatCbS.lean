/- The reference's Build: sorting, first comings: plainly. -/
import Derived.Test.YtmjinnbdnpedcaaGreatKbP
namespace Edict
/-! ### Comparing -/
def cmpL:List Int→List Int→Int
 |[],[]=>0
 |[],_::_=> -1
 |_::_,[]=>1
 |x::a,y::b=>if x<y then -1 else if y<x then 1 else cmpL a b
theorem cmpL_eq: ∀{a b:List Int},cmpL a b=0↔a=b
 |[],[]=>by simp [cmpL]
 |[],_::_=>by simp [cmpL]
 |_::_,[]=>by simp [cmpL]
 |x::a,y::b=>by
  have ih:=cmpL_eq (a:=a) (b:=b)
  unfold cmpL
  split
  ·simp;omega
  ·split
   ·simp;omega
   ·rw[ih,List.cons.injEq];constructor
    ·intro h;exact⟨by omega,h⟩
    ·intro h;exact h.2
theorem cmpL_anti: ∀a b:List Int,cmpL b a= - cmpL a b
 |[],[]=>by simp [cmpL]
 |[],_::_=>by simp [cmpL]
 |_::_,[]=>by simp [cmpL]
 |x::a,y::b=>by
  have ih:=cmpL_anti a b
  unfold cmpL
  by_cases h1:x<y
  ·rw[if_neg (by omega),if_pos h1,if_pos h1];rfl
  ·by_cases h2:y<x
   ·rw[if_pos h2,if_neg h1,if_pos h2]
   ·rw[if_neg h2,if_neg h1,if_neg h1,if_neg h2,ih]
theorem cmpL_trans: ∀{a b c:List Int},cmpL a b<0→cmpL b c<0→cmpL a c<0
 |[],_,[],h1,h2=>by
  rename_i b
  cases b with
  |nil=>simp [cmpL]at h1
  |cons y b=>simp [cmpL]at h2
 |[],_,_::_,_,_=>by simp [cmpL]
 |_::_,[],_,h1,_=>by simp [cmpL]at h1
 |_::_,_::_,[],_,h2=>by simp [cmpL]at h2
 |x::a,y::b,z::c,h1,h2=>by
  have ih:=cmpL_trans (a:=a) (b:=b) (c:=c)
  unfold cmpL at h1 h2 ⊢
  by_cases e1:x<y
  ·by_cases e2:y<z
   ·rw[if_pos (by omega)];decide
   ·rw[if_neg e2]at h2
    by_cases e3:z<y
    ·rw[if_pos e3]at h2;omega
    ·rw[if_pos (by omega)];decide
  ·rw[if_neg e1]at h1
   by_cases e3:y<x
   ·rw[if_pos e3]at h1;omega
   ·rw[if_neg e3]at h1
    by_cases e2:y<z
    ·rw[if_pos (by omega)];decide
    ·rw[if_neg e2]at h2
     by_cases e4:z<y
     ·rw[if_pos e4]at h2;omega
     ·rw[if_neg e4]at h2
      rw[if_neg (by omega),if_neg (by omega)]
      exact ih h1 h2
def bytK(s:List UInt8):List Int:=s.map fun b=>(b.toNat:Int)
theorem bytK_inj: ∀{a b:List UInt8},bytK a=bytK b→a=b
 |[],[],_=>rfl
 |[],_::_,h=>by simp [bytK]at h
 |_::_,[],h=>by simp [bytK]at h
 |x::a,y::b,h=>by
  simp only[bytK,List.map_cons,List.cons.injEq]at h
  have h1:x.toNat=y.toNat:=by omega
  rw[UInt8.toNat_inj.1 h1,bytK_inj (a:=a) (b:=b) h.2]
def keyC(c:Const):List Int:=c.1::c.2.1::bytK c.2.2
theorem keyC_inj{a b:Const}(h:keyC a=keyC b):a=b:=by
 unfold keyC at h
 simp only[List.cons.injEq]at h
 exact Prod.ext h.1 (Prod.ext h.2.1 (bytK_inj h.2.2))
def cmpB(a b:List UInt8):Int:=cmpL (bytK a) (bytK b)
def cmpC(a b:Const):Int:=cmpL (keyC a) (keyC b)
theorem cmpC_eq{a b:Const}:cmpC a b=0↔a=b:=by
 unfold cmpC;rw[cmpL_eq];exact⟨keyC_inj,fun h=>by rw[h]⟩
theorem cmpC_anti(a b:Const):cmpC b a= - cmpC a b:=cmpL_anti _ _
theorem cmpC_trans{a b c:Const}(h1:cmpC a b<0)(h2:cmpC b c<0):cmpC a c<0:=cmpL_trans h1 h2
theorem cmpC_unf(a b:Const):cmpC a b=if a.1≠b.1 then(if a.1<b.1 then -1 else 1)else if a.2.1≠b.2.1 then(if a.2.1<b.2.1 then -1 else 1)else cmpB a.2.2 b.2.2:=by
 unfold cmpC keyC cmpB
 rw[cmpL]
 by_cases h1:a.1=b.1
 ·rw[if_neg (by omega),if_neg (by omega),if_neg (by simp [h1]),cmpL]
  by_cases h2:a.2.1=b.2.1
  ·rw[if_neg (by omega),if_neg (by omega),if_neg (by simp [h2])]
  ·rw[if_pos h2]
   by_cases h3:a.2.1<b.2.1
   ·rw[if_pos h3,if_pos h3]
   ·rw[if_neg h3,if_neg h3,if_pos (by omega)]
 ·rw[if_pos h1]
  by_cases h3:a.1<b.1
  ·rw[if_pos h3,if_pos h3]
  ·rw[if_neg h3,if_neg h3,if_pos (by omega)]
/-! ### Merging -/
def mergeF{α:Type}(lt:α→α→Bool):List α→List α→List α
 |[],b=>b
 |x::a,[]=>x::a
 |x::a,y::b=>if lt x y then x::mergeF lt a (y::b)else y::mergeF lt (x::a) b
termination_by a b=>a.length+b.length
theorem mergeF_nil{α:Type}(lt:α→α→Bool)(a:List α):mergeF lt a []=a:=by
 cases a<;>simp [mergeF]
theorem mergeF_perm{α:Type}(lt:α→α→Bool): ∀(n:Nat) (a b:List α),a.length+b.length≤n→(mergeF lt a b).Perm (a++b)
 |_,[],b,_=>by simp [mergeF]
 |_,x::a,[],_=>by simp [mergeF]
 |0,x::a,y::b,h=>by simp at h
 |n+1,x::a,y::b,h=>by
  simp only[List.length_cons]at h
  unfold mergeF
  split
  ·have:=mergeF_perm lt n a (y::b) (by simp only[List.length_cons];omega)
   exact this.cons x
  ·have:=mergeF_perm lt n (x::a) b (by simp only[List.length_cons];omega)
   exact(this.cons y).trans List.perm_middle.symm
theorem mergeF_sorted{α:Type}{lt:α→α→Bool}(tr: ∀x y z,lt x y=true→lt y z=true→lt x z=true): ∀(n:Nat) (a b:List α),a.length+b.length≤n→
  a.Pairwise (fun x y=>lt x y=true)→b.Pairwise (fun x y=>lt x y=true)→(∀x∈a,∀y∈b,lt x y=true∨lt y x=true)→(mergeF lt a b).Pairwise (fun x y=>lt x y=true)
 |_,[],b,_,_,hb,_=>by simpa [mergeF]using hb
 |_,x::a,[],_,ha,_,_=>by simpa [mergeF]using ha
 |0,x::a,y::b,h,_,_,_=>by simp at h
 |n+1,x::a,y::b,h,ha,hb,ht=>by
  simp only[List.length_cons]at h
  unfold mergeF
  have ha':=List.pairwise_cons.1 ha
  have hb':=List.pairwise_cons.1 hb
  split
  ·rename_i hxy
   refine List.pairwise_cons.2 ⟨fun z hz=> ?_,mergeF_sorted tr n a (y::b) (by simp only[List.length_cons];omega) ha'.2 hb (fun p hp q hq=>ht p (List.mem_cons_of_mem _ hp) q hq)⟩
   have hz:=(mergeF_perm lt _ a (y::b) (Nat.le_refl _)).mem_iff.1 hz
   rcases List.mem_append.1 hz with hz|hz
   ·exact ha'.1 z hz
   ·rcases List.mem_cons.1 hz with rfl|hz
    ·exact hxy
    ·exact tr _ _ _ hxy (hb'.1 z hz)
  ·rename_i hxy
   have hyx:lt y x=true:=(ht x (List.mem_cons_self ..) y (List.mem_cons_self ..)).resolve_left hxy
   refine List.pairwise_cons.2 ⟨fun z hz=> ?_,mergeF_sorted tr n (x::a) b (by simp only[List.length_cons];omega) ha hb'.2 (fun p hp q hq=>ht p hp q (List.mem_cons_of_mem _ hq))⟩
   have hz:=(mergeF_perm lt _ (x::a) b (Nat.le_refl _)).mem_iff.1 hz
   rcases List.mem_append.1 hz with hz|hz
   ·rcases List.mem_cons.1 hz with rfl|hz
    ·exact hyx
    ·exact tr _ _ _ hyx (ha'.1 z hz)
   ·exact hb'.1 z hz
/-! ### Terms where they stand -/
abbrev Put:=Term×Int×Int
abbrev Stood:=Atom×Int
def ltP(byPlace:Bool)(a b:Put):Bool:=if byPlace then decide (a.2.2<b.2.2)else decide (cmpC (cnst a.1) (cnst b.1)<0) || (decide (cmpC (cnst a.1) (cnst b.1)=0) && decide (a.2.2<b.2.2))
theorem ltP_trans(k:Bool)(x y z:Put)(h1:ltP k x y=true)(h2:ltP k y z=true):ltP k x z=true:=by
 unfold ltP at*
 cases k
 ·simp only[Bool.false_eq_true,if_false,Bool.or_eq_true,Bool.and_eq_true,decide_eq_true_eq]at*
  rcases h1 with h1|⟨h1,g1⟩<;>rcases h2 with h2|⟨h2,g2⟩
  ·exact .inl (cmpC_trans h1 h2)
  ·rw[cmpC_eq]at h2;rw[←h2];exact .inl h1
  ·rw[cmpC_eq]at h1;rw[h1];exact .inl h2
  ·rw[cmpC_eq]at h1;rw[h1];exact .inr ⟨h2,by omega⟩
 ·simp only[if_true,decide_eq_true_eq]at*
  omega
theorem ltP_tot(k:Bool)(x y:Put)(h:x.2.2≠y.2.2):ltP k x y=true∨ltP k y x=true:=by
 unfold ltP
 cases k
 ·simp only[Bool.false_eq_true,if_false,Bool.or_eq_true,Bool.and_eq_true,decide_eq_true_eq]
  have ha:=cmpC_anti (cnst x.1) (cnst y.1)
  by_cases h0:cmpC (cnst x.1) (cnst y.1)=0
  ·by_cases hl:x.2.2<y.2.2
   ·exact .inl (.inr ⟨h0,hl⟩)
   ·exact .inr (.inr ⟨by omega,by omega⟩)
  ·by_cases hl:cmpC (cnst x.1) (cnst y.1)<0
   ·exact .inl (.inl hl)
   ·exact .inr (.inl (by omega))
 ·simp only[if_true,decide_eq_true_eq]
  omega
def SortR(k:Bool)(l r:List Put):Prop:=r.Perm l∧r.Pairwise fun x y=>ltP k x y=true
def DistP(l:List Put):Prop:=l.Pairwise fun x y=>x.2.2≠y.2.2
theorem DistP.app{a b:List Put}(h:DistP (a++b)):DistP a∧DistP b∧ ∀x∈a,∀y∈b,x.2.2≠y.2.2:=List.pairwise_append.1 h
theorem SortR.merge{k:Bool}{a b ra rb:List Put}(hd:DistP (a++b))(ha:SortR k a ra)(hb:SortR k b rb):SortR k (a++b) (mergeF (ltP k) ra rb):=by
 refine⟨(mergeF_perm _ _ _ _ (Nat.le_refl _)).trans (ha.1.append hb.1),mergeF_sorted (ltP_trans k) _ _ _ (Nat.le_refl _) ha.2 hb.2 fun x hx y hy=>ltP_tot k x y ?_⟩
 exact hd.app.2.2 x (ha.1.mem_iff.1 hx) y (hb.1.mem_iff.1 hy)
theorem SortR.small{k:Bool}{l:List Put}(h:l.length<2):SortR k l l:=by
 refine⟨.refl _,?_⟩
 match l,h with
 |[],_=>exact .nil
 |[x],_=>exact List.pairwise_singleton _ _
 |_::_::_,h=>simp at h;omega
theorem sorted_ext: ∀{a b:List Put},(a.Pairwise fun x y=>x.2.2<y.2.2)→(b.Pairwise fun x y=>x.2.2<y.2.2)→(∀x,x∈a↔x∈b)→a=b
 |[],[],_,_,_=>rfl
 |[],y::b,_,_,h=>by have:=(h y).2 (List.mem_cons_self ..);simp at this
 |x::a,[],_,_,h=>by have:=(h x).1 (List.mem_cons_self ..);simp at this
 |x::a,y::b,ha,hb,h=>by
  have ha':=List.pairwise_cons.1 ha
  have hb':=List.pairwise_cons.1 hb
  have hxy:x=y:=by
   rcases List.mem_cons.1 ((h x).1 (List.mem_cons_self ..))with e|e
   ·exact e
   ·rcases List.mem_cons.1 ((h y).2 (List.mem_cons_self ..))with e'|e'
    ·exact e'.symm
    ·have:=ha'.1 y e'
     have:=hb'.1 x e
     omega
  subst hxy
  congr 1
  refine sorted_ext ha'.2 hb'.2 fun z=> ?_
  constructor
  ·intro hz
   rcases List.mem_cons.1 ((h z).1 (List.mem_cons_of_mem _ hz))with rfl|e
   ·have:=ha'.1 z hz;omega
   ·exact e
  ·intro hz
   rcases List.mem_cons.1 ((h z).2 (List.mem_cons_of_mem _ hz))with rfl|e
   ·have:=hb'.1 z hz;omega
   ·exact e
/-! ### First comings -/
def firstsF:List Const→List Put→List Put
 |_,[]=>[]
 |seen,x::l=>if x.1.1=4∨cnst x.1∈seen then firstsF seen l else x::firstsF (seen++[cnst x.1]) l
def isK(x:Put):Bool:= !decide (x.1.1=4)
def oneF:Option Const→List Put→List Put
 |_,[]=>[]
 |p,x::l=>if p=some (cnst x.1)then oneF p l else x::oneF (some (cnst x.1)) l
theorem firstsF_sub: ∀(l:List Put) (seen:List Const),(firstsF seen l).Sublist l
 |[],_=>by simp [firstsF]
 |x::l,seen=>by
  unfold firstsF
  split
  ·exact(firstsF_sub l seen).cons x
  ·exact(firstsF_sub l _).cons_cons x
theorem firstsF_mem: ∀{l:List Put} {seen:List Const} {x:Put},(l.Pairwise fun x y=>x.2.2<y.2.2)→(x∈firstsF seen l↔x∈l∧x.1.1≠4∧cnst x.1 ∉ seen∧ ∀y∈l,cnst y.1=cnst x.1→x.2.2≤y.2.2)
 |[],_,_,_=>by simp [firstsF]
 |z::l,seen,x,hp=>by
  have hp':=List.pairwise_cons.1 hp
  unfold firstsF
  split
  ·rename_i hz
   rw[firstsF_mem hp'.2]
   constructor
   ·rintro ⟨h1,h2,h3,h4⟩
    refine⟨List.mem_cons_of_mem _ h1,h2,h3,fun y hy he=> ?_⟩
    rcases List.mem_cons.1 hy with rfl|hy
    ·exfalso
     rcases hz with hz|hz
     ·apply h2;have:(cnst y.1).1=(cnst x.1).1:=by rw[he]
      exact this.symm.trans hz
     ·rw[he]at hz;exact h3 hz
    ·exact h4 y hy he
   ·rintro ⟨h1,h2,h3,h4⟩
    rcases List.mem_cons.1 h1 with rfl|h1
    ·exfalso
     rcases hz with hz|hz
     ·exact h2 hz
     ·exact h3 hz
    ·exact⟨h1,h2,h3,fun y hy he=>h4 y (List.mem_cons_of_mem _ hy) he⟩
  ·rename_i hz
   have hz4:z.1.1≠4:=fun e=>hz (.inl e)
   have hzs:cnst z.1 ∉ seen:=fun e=>hz (.inr e)
   rw[List.mem_cons,firstsF_mem hp'.2]
   constructor
   ·rintro (rfl|⟨h1,h2,h3,h4⟩)
    ·refine⟨List.mem_cons_self ..,hz4,hzs,fun y hy he=> ?_⟩
     rcases List.mem_cons.1 hy with rfl|hy
     ·exact Int.le_refl _
     ·exact Int.le_of_lt (hp'.1 y hy)
    ·rw[List.mem_append,List.mem_singleton]at h3
     refine⟨List.mem_cons_of_mem _ h1,h2,fun e=>h3 (.inl e),fun y hy he=> ?_⟩
     rcases List.mem_cons.1 hy with rfl|hy
     ·exact absurd he.symm fun e=>h3 (.inr e)
     ·exact h4 y hy he
   ·rintro ⟨h1,h2,h3,h4⟩
    rcases List.mem_cons.1 h1 with rfl|h1
    ·exact .inl rfl
    ·refine .inr ⟨h1,h2,?_,fun y hy he=>h4 y (List.mem_cons_of_mem _ hy) he⟩
     rw[List.mem_append,List.mem_singleton]
     rintro (e|e)
     ·exact h3 e
     ·have h5:=h4 z (List.mem_cons_self ..) e.symm
      have h6:=hp'.1 x h1
      omega
theorem oneF_sub: ∀(l:List Put) (p:Option Const),(oneF p l).Sublist l
 |[],_=>by simp [oneF]
 |x::l,p=>by
  unfold oneF
  split
  ·exact(oneF_sub l p).cons x
  ·exact(oneF_sub l _).cons_cons x
theorem ltP_false{x y:Put}:ltP false x y=true↔cmpC (cnst x.1) (cnst y.1)<0∨(cmpC (cnst x.1) (cnst y.1)=0∧x.2.2<y.2.2):=by
 unfold ltP;simp only[Bool.false_eq_true,if_false,Bool.or_eq_true,Bool.and_eq_true,decide_eq_true_eq]
theorem ltP_true{x y:Put}:ltP true x y=true↔x.2.2<y.2.2:=by
 unfold ltP;simp only[if_true,decide_eq_true_eq]
theorem oneF_mem: ∀{l:List Put} {p:Option Const} {x:Put},(l.Pairwise fun x y=>ltP false x y=true)→(∀c,p=some c→ ∀y∈l,cmpC c (cnst y.1)≤0)→
  (x∈oneF p l↔x∈l∧p≠some (cnst x.1)∧ ∀y∈l,cnst y.1=cnst x.1→x.2.2≤y.2.2)
 |[],_,_,_,_=>by simp [oneF]
 |z::l,p,x,hp,hc=>by
  have hp':=List.pairwise_cons.1 hp
  unfold oneF
  split
  ·rename_i hz
   rw[oneF_mem hp'.2 (fun c e y hy=>hc c e y (List.mem_cons_of_mem _ hy))]
   constructor
   ·rintro ⟨h1,h2,h3⟩
    refine⟨List.mem_cons_of_mem _ h1,h2,fun y hy he=> ?_⟩
    rcases List.mem_cons.1 hy with rfl|hy
    ·exact absurd (hz.trans (by rw[he])) h2
    ·exact h3 y hy he
   ·rintro ⟨h1,h2,h3⟩
    rcases List.mem_cons.1 h1 with rfl|h1
    ·exact absurd hz h2
    ·exact⟨h1,h2,fun y hy he=>h3 y (List.mem_cons_of_mem _ hy) he⟩
  ·rename_i hz
   have hzl: ∀c,some (cnst z.1)=some c→ ∀y∈l,cmpC c (cnst y.1)≤0:=by
    intro c e y hy
    cases e
    rcases ltP_false.1 (hp'.1 y hy)with h|h<;>omega
   rw[List.mem_cons,oneF_mem hp'.2 hzl]
   constructor
   ·rintro (rfl|⟨h1,h2,h3⟩)
    ·refine⟨List.mem_cons_self ..,hz,fun y hy he=> ?_⟩
     rcases List.mem_cons.1 hy with rfl|hy
     ·exact Int.le_refl _
     ·rcases ltP_false.1 (hp'.1 y hy)with h|h
      ·rw[he,cmpC_eq.2 rfl]at h;omega
      ·exact Int.le_of_lt h.2
    ·refine⟨List.mem_cons_of_mem _ h1,fun e=> ?_,fun y hy he=> ?_⟩
     ·-- the run's constant lies ahead of z
      have g1:=hc _ e z (List.mem_cons_self ..)
      have g2:cmpC (cnst x.1) (cnst z.1)≠0:=fun h0=>h2 (by rw[cmpC_eq.1 h0])
      have g3:=hzl _ rfl x h1
      have g4:=cmpC_anti (cnst x.1) (cnst z.1)
      omega
     ·rcases List.mem_cons.1 hy with rfl|hy
      ·exact absurd (by rw[he]) h2
      ·exact h3 y hy he
   ·rintro ⟨h1,h2,h3⟩
    rcases List.mem_cons.1 h1 with rfl|h1
    ·exact .inl rfl
    ·refine .inr ⟨h1,fun e=> ?_,fun y hy he=>h3 y (List.mem_cons_of_mem _ hy) he⟩
     have e:=Option.some.inj e
     have h5:=h3 z (List.mem_cons_self ..) e
     rcases ltP_false.1 (hp'.1 x h1)with h|h
     ·rw[e,cmpC_eq.2 rfl]at h;omega
     ·omega
theorem firsts_eq{l s r:List Put}(hl:l.Pairwise fun x y=>x.2.2<y.2.2)(hs:SortR false (l.filter isK) s)(hr:SortR true (oneF none s) r):r=firstsF [] l:=by
 refine sorted_ext (hr.2.imp fun h=>ltP_true.1 h) (hl.sublist (firstsF_sub l [])) fun x=> ?_
 rw[hr.1.mem_iff,oneF_mem hs.2 (fun c e=>by cases e),firstsF_mem hl,hs.1.mem_iff,List.mem_filter]
 constructor
 ·rintro ⟨⟨h1,h2⟩,-,h3⟩
  have h4:x.1.1≠4:=by simpa [isK]using h2
  refine⟨h1,h4,by simp,fun y hy he=>h3 y ?_ he⟩
  rw[hs.1.mem_iff,List.mem_filter]
  refine⟨hy,?_⟩
  have:y.1.1=x.1.1:=congrArg (fun c:Const=>c.1) he
  simp [isK,this,h4]
 ·rintro ⟨h1,h2,-,h3⟩
  refine⟨⟨h1,by simp [isK,h2]⟩,by simp,fun y hy he=>h3 y ?_ he⟩
  rw[hs.1.mem_iff,List.mem_filter]at hy
  exact hy.1
theorem valT_in{cs:List Const}{t:Term}(h:t.1=4∨cnst t∈cs):valT cs t=cs:=by unfold valT;rw[if_pos h]
theorem valT_new{cs:List Const}{t:Term}(h: ¬(t.1=4∨cnst t∈cs)):valT cs t=cs++[cnst t]:=by unfold valT;rw[if_neg h]
theorem firstsF_in{x:Put}{l:List Put}{seen:List Const}(h:x.1.1=4∨cnst x.1∈seen):firstsF seen (x::l)=firstsF seen l:=by rw[firstsF,if_pos h]
theorem firstsF_new{x:Put}{l:List Put}{seen:List Const}(h: ¬(x.1.1=4∨cnst x.1∈seen)):firstsF seen (x::l)=x::firstsF (seen++[cnst x.1]) l:=by rw[firstsF,if_neg h]
theorem firstsF_vals: ∀(l:List Put) (seen:List Const),seen++(firstsF seen l).map (fun x=>cnst x.1)=(l.map (·.1)).foldl valT seen
 |[],seen=>by simp [firstsF]
 |x::l,seen=>by
  rw[List.map_cons,List.foldl_cons]
  by_cases h:x.1.1=4∨cnst x.1∈seen
  ·rw[firstsF_in h,valT_in h,firstsF_vals l seen]
  ·have:=firstsF_vals l (seen++[cnst x.1])
   rw[List.append_assoc]at this
   rw[firstsF_new h,valT_new h,←this];rfl
theorem firstsF_app: ∀(a b:List Put) (seen:List Const),firstsF seen (a++b)=firstsF seen a++firstsF ((a.map (·.1)).foldl valT seen) b
 |[],b,seen=>by simp [firstsF]
 |x::a,b,seen=>by
  rw[List.cons_append,List.map_cons,List.foldl_cons]
  by_cases h:x.1.1=4∨cnst x.1∈seen
  ·rw[firstsF_in h,firstsF_in h,valT_in h,firstsF_app a b seen]
  ·rw[firstsF_new h,firstsF_new h,valT_new h,firstsF_app a b _,List.cons_append]
theorem valF_firsts: ∀(l:List Put) (seen:List Const),seen.length≤65536→(valF seen (l.map (·.1))).2=((firstsF seen l)[65536 - seen.length]?).map (·.1)∧((valF seen (l.map (·.1))).2=none→(valF seen (l.map (·.1))).1=(l.map (·.1)).foldl valT seen)
 |[],seen,_=>by simp [valF,firstsF]
 |x::l,seen,hl=>by
  rw[List.map_cons,List.foldl_cons]
  rw[valF]
  by_cases h:x.1.1=4∨cnst x.1∈seen
  ·have hv:valT seen x.1=seen:=by unfold valT;rw[if_pos h]
   rw[firstsF_in h,if_neg (by rcases h with h|h<;>simp [h]),hv]
   exact valF_firsts l seen hl
  ·have h4:x.1.1≠4:=fun e=>h (.inl e)
   have hs:cnst x.1 ∉ seen:=fun e=>h (.inr e)
   rw[firstsF_new h]
   by_cases hz:65536≤seen.length
   ·rw[if_pos ⟨h4,hs,hz⟩]
    have:65536 - seen.length=0:=by omega
    rw[this];simp
   ·rw[if_neg (by simp [hz])]
    have hv:valT seen x.1=seen++[cnst x.1]:=by unfold valT;rw[if_neg h]
    rw[hv]
    have ih:=valF_firsts l (seen++[cnst x.1]) (by rw[List.length_append,List.length_singleton];omega)
    have e:65536 - seen.length=(65536 - (seen++[cnst x.1]).length)+1:=by rw[List.length_append,List.length_singleton];omega
    rw[e,List.getElem?_cons_succ]
    exact ih
end Edict
