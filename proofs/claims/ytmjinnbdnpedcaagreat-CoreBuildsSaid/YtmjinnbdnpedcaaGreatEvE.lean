import Derived.Test.YtmjinnbdnpedcaaGreatEvC
section Merged
namespace Go.Ev
open Go Rep
/-! ### Maps from keys of plain cells to integers -/
def MapG{κ:Type}(ks:List Kc)(enc:κ→Value)(h:H)(b:Nat)(m:κ→Option Int)(n:Nat):Prop:= ∃a c,h[b]? =some (.map a c)∧a.size=n∧(a.toList.map (·.key)).Nodup∧(∀x∈a.toList,∃s v,x.key=enc s∧keyG ks (enc s)=true∧x.val= .int .i64 v∧m s=some v)∧ ∀s v,m s=some v→ ∃x∈a.toList,x.key=enc s
section
variable {κ:Type} {ks:List Kc} {enc:κ→Value}
theorem MapG.lt{h:H}{b:Nat}{m:κ→Option Int}{n:Nat}(k:MapG ks enc h b m n):b<h.size:=by
 obtain⟨a,c,hb,_⟩:=k
 exact(Array.getElem?_eq_some_iff.1 hb).1
theorem MapG.step{S:Nat→Prop}{u u':U}{h h':H}{b:Nat}{m:κ→Option Int}{n:Nat}(k:MapG ks enc h b m n)(s:Step S u h u' h')(hn: ¬S b):MapG ks enc h' b m n:=by
 have hl:=k.lt
 obtain⟨a,c,hb,k'⟩:=k
 exact⟨a,c,by rw[(s.same b hl hn).1];exact hb,k'⟩
def putg(m:κ→Option Int) [DecidableEq κ](s:κ)(v:Int):κ→Option Int:=fun t=>if t=s then some v else m t
variable {G:Ctr} {d:Option Nat} {st:Stab} {r:List St} {K:Env→H→Prop} {KP:List PanicEntry→H→Prop} {σ:Env} {h:H}
theorem effS_mkmg(ks:List Kc)(enc:κ→Value)(u:U)(hK: ∀u' h',Step S0 u h u' h'→MapG ks enc h' h.size (fun _=>none) 0→stabP st σ h h'∧wpSts G r K KP (updo σ d (.map (some h.size))) h'):effS G .mkm d st r K KP [] σ h:=
 hK _ _ (Step.pushO S0 u h (.map #[] 0)) ⟨#[],0,by simp,rfl,by simp,fun x hx=>by simp at hx,fun s v hv=>by cases hv⟩
theorem effS_lookg{b n:Nat}{m:κ→Option Int}{s:κ}{ok:Bool}(inj: ∀a b,enc a=enc b→a=b)(hs:keyG ks (enc s)=true)(k:MapG ks enc h b m n)(hK:stabP st σ h h∧wpSts G r K KP (updo σ d (lookV (.int .i64 ((m s).getD 0)) ok (m s).isSome)) h):
  effS G (.lookG ks (.int .i64 0) ok) d st r K KP [.map (some b),enc s] σ h:=by
 obtain⟨a,c,hb,hn,knd,k1,k2⟩:=k
 refine⟨a.toList,⟨a,c,hb,rfl⟩,hs,fun x hx=> ?_,fun e he hk=> ?_,fun hno=> ?_⟩
 ·obtain⟨t,v,e1,e2,-⟩:=k1 x hx
  rw[e1];exact e2
 ·obtain⟨t,v,e1,-,e2,e3⟩:=k1 e he
  have:t=s:=inj _ _ (e1.symm.trans hk)
  subst this
  rw[e3]at hK
  rw[e2];exact hK
 ·cases hm:m s with
  |none=>rw[hm]at hK;exact hK
  |some v=>
   obtain⟨x,hx,hk⟩:=k2 s v hm
   exact absurd hk (hno x hx)
theorem effS_lenmg{b n:Nat}{m:κ→Option Int}(k:MapG ks enc h b m n)(hK:stabP st σ h h∧wpSts G r K KP (updo σ d (.int .i64 n)) h):effS G .lenm d st r K KP [.map (some b)] σ h:=by
 obtain⟨a,c,hb,hn,knd,k1,k2⟩:=k
 refine⟨a.toList,⟨a,c,hb,rfl⟩,?_⟩
 rw[Array.length_toList,hn];exact hK
theorem effS_mputg [DecidableEq κ] {b n:Nat} {m:κ→Option Int} {s:κ} {v:Int} (u:U) (inj: ∀a b,enc a=enc b→a=b) (hs:keyG ks (enc s)=true) (k:MapG ks enc h b m n)
  (hK: ∀h',Step (fun i=>i=b) u h u h'→MapG ks enc h' b (putg m s v) (if(m s).isSome then n else n+1)→stabP st σ h h'∧wpSts G r K KP (updo σ d undef) h'):
  effS G (.mputG ks) d st r K KP [.map (some b),enc s,.int .i64 v] σ h:=by
 have hl:=k.lt
 obtain⟨a,c,hb,hn,knd,k1,k2⟩:=k
 refine⟨b,a,c,rfl,hb,hs,fun x hx=> ?_,fun i e he hk=> ?_,fun hno=> ?_⟩
 ·obtain⟨t,v,e1,e2,-⟩:=k1 x hx
  rw[e1];exact e2
 ·refine hK _ (Step.setm u hb rfl) ?_
  obtain⟨t,w,e1,-,e2,e3⟩:=k1 e (by rw[←Array.getElem?_toList]at he;exact List.mem_of_getElem? he)
  have:t=s:=inj _ _ (e1.symm.trans hk)
  subst this
  rw[e3]
  have hkeys:(a.modify i fun x=>{x with key:=enc t,val:= .int .i64 v}).toList.map (·.key)=a.toList.map (·.key):=MapKept.modify_keys i _ (fun e' he'=>by rw[he]at he';cases he';exact e1.symm)
  refine⟨_,c,by rw[setm_get hl,if_pos rfl],by simpa using hn,by rw[hkeys];exact knd,fun x hx=> ?_,fun t' v' hv'=> ?_⟩
  ·rw[Array.toList_modify]at hx
   obtain⟨j,hj,rfl⟩:=List.mem_iff_getElem.1 hx
   rw[List.getElem_modify]
   have hj':j<a.toList.length:=by simpa using hj
   by_cases hij:i=j
   ·rw[if_pos hij]
    exact⟨t,v,rfl,hs,rfl,by simp [putg]⟩
   ·rw[if_neg hij]
    obtain⟨t',w',q1,q0,q2,q3⟩:=k1 a.toList[j] (List.getElem_mem hj')
    by_cases ht:t'=t
    ·subst ht
     exfalso
     have hi':i<a.toList.length:=by rw[Array.length_toList];exact(Array.getElem?_eq_some_iff.1 he).1
     have hei:a.toList[i]=e:=by
      have:=(Array.getElem?_eq_some_iff.1 he).2
      simpa using this
     exact hij ((List.getElem_inj (h₀:=by simpa using hi') (h₁:=by simpa using hj') knd).1 (by simp only[List.getElem_map];rw[hei,e1,q1]))
    ·exact⟨t',w',q1,q0,q2,by simp [putg,ht,q3]⟩
  ·unfold putg at hv'
   have hmem: ∃x∈a.toList,x.key=enc t':=by
    by_cases ht:t'=t
    ·subst ht;exact k2 t' w e3
    ·rw[if_neg ht]at hv';exact k2 t' v' hv'
   obtain⟨x,hx,hxk⟩:=hmem
   have:enc t'∈(a.modify i fun x=>{x with key:=enc t,val:= .int .i64 v}).toList.map (·.key):=by rw[hkeys];exact List.mem_map.2 ⟨x,hx,hxk⟩
   obtain⟨y,hy,hyk⟩:=List.mem_map.1 this
   exact⟨y,hy,hyk⟩
 ·have hm:m s=none:=by
   cases hm:m s with
   |none=>rfl
   |some w=>obtain⟨x,hx,hk⟩:=k2 s w hm;exact absurd hk (hno x hx)
  refine hK _ (Step.setm u hb rfl) ?_
  rw[hm]
  refine⟨_,c+1,by rw[setm_get hl,if_pos rfl],by simp [hn],?_,fun x hx=> ?_,fun t' v' hv'=> ?_⟩
  ·rw[Array.toList_push,List.map_append]
   refine List.nodup_append.2 ⟨knd,by simp,fun x hx y hy=> ?_⟩
   simp only[List.map_cons,List.map_nil,List.mem_singleton]at hy
   subst hy
   obtain⟨e,he,rfl⟩:=List.mem_map.1 hx
   exact hno e he
  ·rw[Array.toList_push,List.mem_append,List.mem_singleton]at hx
   rcases hx with hx|rfl
   ·obtain⟨t',w',q1,q0,q2,q3⟩:=k1 x hx
    have ht:t'≠s:=fun q=>hno x hx (by rw[q1,q])
    exact⟨t',w',q1,q0,q2,by simp [putg,ht,q3]⟩
   ·exact⟨s,v,rfl,hs,rfl,by simp [putg]⟩
  ·unfold putg at hv'
   rw[Array.toList_push]
   by_cases ht:t'=s
   ·subst ht;exact⟨_,List.mem_append.2 (.inr (List.mem_singleton.2 rfl)),rfl⟩
   ·rw[if_neg ht]at hv'
    obtain⟨x,hx,hk⟩:=k2 t' v' hv'
    exact⟨x,by simp only[List.mem_append];exact .inl hx,hk⟩
end
/-! ### Rows of bytes -/
@[instance_reducible] def repB8:Rep UInt8 where
 sz:=1
 rep _ _ s cs:=cs=[.int .u8 s.toNat]
 wf _:=True
 bulk _:=1
 szp:=Nat.one_pos
 len h:=by subst h;rfl
 ok h:=by subst h;rfl
 mono _ h:=h
 pos _:=Nat.le_refl _
abbrev OwnY(k:Nat)(u:U)(h:H)(v:Value)(l:List UInt8):Prop:= @Own UInt8 repB8 k u h v l
abbrev IsSlY(u:U)(h:H)(v:Value)(l:List UInt8):Prop:= @IsSl UInt8 repB8 u h v l
theorem szY: @Rep.sz UInt8 repB8=1:=rfl
theorem ok_bytes(l:List UInt8):(l.map byteV).all okCell=true:=by
 rw[List.all_eq_true]
 intro x hx
 obtain⟨b,-,rfl⟩:=List.mem_map.1 hx
 rfl
theorem own_apps {G:Ctr} {e:TypeId} {k:Nat} {u:U} {h:H} {v:Value} {l m:List UInt8} {K:Value→H→Prop} {KP:List PanicEntry→H→Prop}
  (ho:OwnY k u h v l) (hk:k≤h.size) (hb:l.length+m.length≤140737488355328)
  (hK: ∀v' u' h',OwnY k u' h' v' (l++m)→Step (OwnB v) u h u' h'→(∀b,OwnB v' b→OwnB v b∨h.size≤b)→K v' h'):fpre G (.apps e) [v,str m] h K KP:=by
 have hlen:(l++m).length=l.length+m.length:=by simp
 have hnl:(m.map byteV).length=m.length:=by simp
 -- the rows of the new block
 have grow: ∀(va:Option Addr) (vc:Nat) (olds:List Value) (cap:Nat),v= .slice va l.length vc→olds.length=l.length→(∀(i:Nat) (x:UInt8),l[i]? =some x→olds[i]? =some (Value.int .u8 x.toNat))→l.length+m.length≤cap→cap≤maxLen→
   K (.slice (some ⟨h.size,0,none⟩) (l.length+m.length) cap) (h.push (.cells (olds++m.map byteV++List.replicate (cap - (l.length+m.length)) (Value.int .u8 0)).toArray e)):=by
  intro va vc olds cap hv hol hor h1 h2
  have st:=Step.push (OwnB v) u h (olds++m.map byteV++List.replicate (cap - (l.length+m.length)) (Value.int .u8 0)).toArray e (l.length+m.length)
  refine hK _ (ub u h.size (l.length+m.length)) _ (.inr ⟨h.size,cap,by rw[hlen],by omega,h2,hk,by simp,?_,e_hfrpe rfl,by rw[szY];simp [ub],fun i x hx=> ?_⟩) st (fun b hb=> ?_)
  ·rw[e_hszpe rfl,szY]
   simp only[List.length_append,List.length_replicate,hol,hnl]
   omega
  ·have hi:=(List.getElem?_eq_some_iff.1 hx).1
   rw[hlen]at hi
   show hvs _ _ _ _=_
   rw[szY,hvs_1,Nat.mul_one,e_hvpe rfl,List.getD_eq_getElem?_getD]
   congr 1
   rw[List.getElem?_append_left (by rw[List.length_append,hol,hnl];omega)]
   by_cases hil:i<l.length
   ·rw[List.getElem?_append_left hil]at hx
    rw[List.getElem?_append_left (by omega),hor i x hx];rfl
   ·rw[List.getElem?_append_right (by omega)]at hx
    rw[List.getElem?_append_right (by omega),hol,List.getElem?_map,hx];rfl
  ·obtain⟨o,n,c,e⟩:=hb
   cases e;right;exact Nat.le_refl _
 rcases ho with⟨rfl,rfl⟩|⟨b,vc,rfl,h1,h2,h3,h4,h5,h6,h7,h8⟩
 ·refine⟨rfl,fun _=>⟨rfl,rfl⟩,Nat.le_refl _,by rw[bl_str];simpa using hb,[],.inl ⟨rfl,rfl⟩,fun hle=> ?_,fun _ cap hc1 hc2=> ?_⟩
  ·rw[bl_str]at hle
   have:m=[]:=List.eq_nil_of_length_eq_zero (by omega)
   subst this
   exact hK _ u h (.inl ⟨rfl,rfl⟩) (.refl _ _ _) (fun b hb=> .inl hb)
  ·rw[bl_str]at hc1 ⊢
   exact grow none 0 [] cap rfl rfl (fun i x hx=>by simp at hx) hc1 hc2
 ·rw[szY,Nat.mul_one]at h5 h7
  refine⟨rfl,(fun h=>by cases h),h1,by rw[bl_str];exact hb,hvs h b 0 l.length,.inr ⟨by rw[h5,Nat.zero_add];exact h1,rfl⟩,fun hle=> ?_,fun _ cap hc1 hc2=> ?_⟩
  ·rw[bl_str]at hle ⊢
   simp only[Nat.zero_add]
   have hfit:l.length+(m.map byteV).length≤hsz h b:=by rw[h5,hnl];exact hle
   refine⟨⟨hfit,by rw[h6];right;exact Nat.zero_le _,ok_bytes m⟩,?_⟩
   have hB:OwnB (.slice (some ⟨b,0,none⟩) l.length vc) b:=⟨_,_,_,rfl⟩
   have s1:=Step.sets (S:=OwnB (.slice (some ⟨b,0,none⟩) l.length vc)) u h (m.map byteV) hB (by rw[h7];exact Nat.le_refl _) hfit
   have s2:=Step.settle (S:=OwnB (.slice (some ⟨b,0,none⟩) l.length vc)) u (hsets h b l.length (m.map byteV)) (n:=l.length+m.length) hB (by rw[h7];exact Nat.le_add_right _ _)
   have st:=s1.trans s2 (fun _ _ h=>h)
   refine hK _ _ _ (.inr ⟨b,vc,by rw[hlen],by rw[hlen];exact hle,h2,h3,by rw[hsets_size];exact h4,by rw[hsets_hsz,szY,Nat.mul_one];exact h5,by rw[hsets_hfr];exact h6,by rw[hlen,szY,Nat.mul_one];simp [ub],fun i x hx=> ?_⟩) st (fun b' hb'=> ?_)
   ·have hi:=(List.getElem?_eq_some_iff.1 hx).1
    rw[hlen]at hi
    show hvs _ _ _ _=_
    rw[szY,hvs_1,Nat.mul_one,hsets_hv _ _ _ _ _ hfit]
    by_cases hil:i<l.length
    ·rw[List.getElem?_append_left hil]at hx
     rw[if_neg (by omega)]
     have:=h8 i x hx
     rw[szY,hvs_1,Nat.mul_one]at this
     exact this
    ·rw[List.getElem?_append_right (by omega)]at hx
     rw[if_pos (by rw[hnl];omega),List.getD_eq_getElem?_getD,List.getElem?_map,hx];rfl
   ·obtain⟨o,n,c',e⟩:=hb'
    cases e;exact .inl hB
  ·rw[bl_str]at hc1 ⊢
   refine grow _ vc _ cap rfl (by simp [hvs]) (fun i x hx=> ?_) hc1 hc2
   have hi:=(List.getElem?_eq_some_iff.1 hx).1
   have:=h8 i x hx
   rw[szY,hvs_1,Nat.mul_one]at this
   have e:Go.Ev.hv h b i=Value.int .u8 x.toNat:=by simpa using (show [Go.Ev.hv h b i]=[Value.int .u8 x.toNat]from this)
   unfold hvs
   rw[List.getElem?_map,List.getElem?_range hi,Option.map_some,Nat.zero_add,e]
end Go.Ev
end Merged
section Merged
section Merged
namespace Edict
abbrev Term:=Int×Int×List UInt8×Int
abbrev Const:=Int×Int×List UInt8
abbrev Slot:=Bool×Int
abbrev Atom:=List UInt8×List Term×Int
abbrev Literal:=Int×Atom×Int×Term×Term×Int
abbrev Clause:=Atom×List Literal
abbrev Pattern:=Int×List Slot
abbrev Test:=Int×Slot×Slot
abbrev Rule:=Pattern×List Pattern×List Test×List Pattern×List (List UInt8)×Int
abbrev Pred:=List UInt8×Int
abbrev Row:=Int×List Int
abbrev Core:=List Pred×List Const×List Rule×List Row
abbrev Fact:=List UInt8×List Const
def Term.enc(t:Term):List Go.Value:=[.int .i64 t.1,.int .i64 t.2.1,Go.Ev.str t.2.2.1,.int .i64 t.2.2.2]
end Edict
namespace Go.Ev
open Go Edict
theorem rep_const{u:U}{h:H}{k:Const}{cs:List Value}:Rep.rep u h k cs=(cs=[.int .i64 k.1,.int .i64 k.2.1,str k.2.2]):=by simp [rep_prod,rep_int,rep_str]
theorem rep_slot{u:U}{h:H}{k:Slot}{cs:List Value}:Rep.rep u h k cs=(cs=[.bool k.1,.int .i64 k.2]):=by simp [rep_prod,rep_int,rep_bool]
theorem rep_term{u:U}{h:H}{k:Term}{cs:List Value}:Rep.rep u h k cs=(cs=Term.enc k):=by simp [rep_prod,rep_int,rep_str,Term.enc]
theorem rep_pred{u:U}{h:H}{k:Pred}{cs:List Value}:Rep.rep u h k cs=(cs=[str k.1,.int .i64 k.2]):=by simp [rep_prod,rep_int,rep_str]
theorem rep_test{u:U}{h:H}{k:Test}{cs:List Value}:Rep.rep u h k cs=(cs=[.int .i64 k.1,.bool k.2.1.1,.int .i64 k.2.1.2,.bool k.2.2.1,.int .i64 k.2.2.2]):=by simp [rep_prod,rep_int,rep_bool]
theorem rep_atom{u:U}{h:H}{k:Atom}{cs:List Value}:Rep.rep u h k cs= ∃v,cs=[str k.1,v,.int .i64 k.2.2]∧IsSl u h v k.2.1:=by
 simp only[rep_prod,rep_int,rep_str,rep_list];apply propext;constructor
 ·rintro ⟨_,_,rfl,rfl,_,_,rfl,⟨v,rfl,hs⟩,rfl⟩;exact⟨v,rfl,hs⟩
 ·rintro ⟨v,rfl,hs⟩;exact⟨_,_,rfl,rfl,_,_,rfl,⟨v,rfl,hs⟩,rfl⟩
theorem rep_pattern{u:U}{h:H}{k:Pattern}{cs:List Value}:Rep.rep u h k cs= ∃v,cs=[.int .i64 k.1,v]∧IsSl u h v k.2:=by
 simp only[rep_prod,rep_int,rep_list];apply propext;constructor
 ·rintro ⟨_,_,rfl,rfl,v,rfl,hs⟩;exact⟨v,rfl,hs⟩
 ·rintro ⟨v,rfl,hs⟩;exact⟨_,_,rfl,rfl,v,rfl,hs⟩
theorem rep_row{u:U}{h:H}{k:Row}{cs:List Value}:Rep.rep u h k cs= ∃v,cs=[.int .i64 k.1,v]∧IsSl u h v k.2:=by
 simp only[rep_prod,rep_int,rep_list];apply propext;constructor
 ·rintro ⟨_,_,rfl,rfl,v,rfl,hs⟩;exact⟨v,rfl,hs⟩
 ·rintro ⟨v,rfl,hs⟩;exact⟨_,_,rfl,rfl,v,rfl,hs⟩
theorem rep_literal{u:U}{h:H}{k:Literal}{cs:List Value}:Rep.rep u h k cs= ∃v,cs= .int .i64 k.1::str k.2.1.1::v:: .int .i64 k.2.1.2.2:: .int .i64 k.2.2.1::(Term.enc k.2.2.2.1++(Term.enc k.2.2.2.2.1++[.int .i64 k.2.2.2.2.2]))∧IsSl u h v k.2.1.2.1:=by
 rw[rep_prod];simp only[rep_prod (β:=Int×Term×Term×Int),rep_prod (β:=Term×Term×Int),rep_prod (β:=Term×Int),rep_prod (α:=Term) (β:=Int),rep_atom,rep_term,rep_int];apply propext;constructor
 ·rintro ⟨_,_,rfl,rfl,_,_,rfl,⟨v,rfl,hs⟩,_,_,rfl,rfl,_,_,rfl,rfl,_,_,rfl,rfl,rfl⟩;exact⟨v,rfl,hs⟩
 ·rintro ⟨v,rfl,hs⟩;exact⟨_,_,rfl,rfl,_,_,rfl,⟨v,rfl,hs⟩,_,_,rfl,rfl,_,_,rfl,rfl,_,_,rfl,rfl,rfl⟩
theorem rep_clause{u:U}{h:H}{k:Clause}{cs:List Value}:Rep.rep u h k cs= ∃v w,cs=[str k.1.1,v,.int .i64 k.1.2.2,w]∧IsSl u h v k.1.2.1∧IsSl u h w k.2:=by
 rw[rep_prod];simp only[rep_atom,rep_list];apply propext;constructor
 ·rintro ⟨_,_,rfl,⟨v,rfl,hs⟩,w,rfl,ht⟩;exact⟨v,w,rfl,hs,ht⟩
 ·rintro ⟨v,w,rfl,hs,ht⟩;exact⟨_,_,rfl,⟨v,rfl,hs⟩,w,rfl,ht⟩
theorem rep_rule{u:U}{h:H}{k:Rule}{cs:List Value}:Rep.rep u h k cs= ∃v0 v1 v2 v3 v4,cs=[.int .i64 k.1.1,v0,v1,v2,v3,v4,.int .i64 k.2.2.2.2.2]∧IsSl u h v0 k.1.2∧IsSl u h v1 k.2.1∧IsSl u h v2 k.2.2.1∧IsSl u h v3 k.2.2.2.1∧IsSl u h v4 k.2.2.2.2.1:=by
 rw[rep_prod];simp only[rep_prod (β:=List Test×List Pattern×List (List UInt8)×Int),rep_prod (β:=List Pattern×List (List UInt8)×Int),rep_prod (β:=List (List UInt8)×Int),rep_prod (α:=List (List UInt8)) (β:=Int),rep_pattern,rep_list,rep_int];apply propext;constructor
 ·rintro ⟨_,_,rfl,⟨v0,rfl,h0⟩,_,_,rfl,⟨v1,rfl,h1⟩,_,_,rfl,⟨v2,rfl,h2⟩,_,_,rfl,⟨v3,rfl,h3⟩,_,_,rfl,⟨v4,rfl,h4⟩,rfl⟩;exact⟨v0,v1,v2,v3,v4,rfl,h0,h1,h2,h3,h4⟩
 ·rintro ⟨v0,v1,v2,v3,v4,rfl,h0,h1,h2,h3,h4⟩;exact⟨_,_,rfl,⟨v0,rfl,h0⟩,_,_,rfl,⟨v1,rfl,h1⟩,_,_,rfl,⟨v2,rfl,h2⟩,_,_,rfl,⟨v3,rfl,h3⟩,_,_,rfl,⟨v4,rfl,h4⟩,rfl⟩
theorem sz_clause:Rep.sz Clause=4:=rfl
theorem sz_const:Rep.sz Const=3:=rfl
theorem sz_slot:Rep.sz Slot=2:=rfl
theorem sz_term:Rep.sz Term=4:=rfl
theorem sz_pred:Rep.sz Pred=2:=rfl
theorem sz_test:Rep.sz Test=5:=rfl
theorem sz_atom:Rep.sz Atom=3:=rfl
theorem sz_pattern:Rep.sz Pattern=2:=rfl
theorem sz_literal:Rep.sz Literal=14:=rfl
theorem sz_rule:Rep.sz Rule=7:=rfl
theorem sz_row:Rep.sz Row=2:=rfl
end Go.Ev
end Merged
section Merged
namespace Go.Ev
open Go Rep
def htyp(h:H)(b:Nat):Option TypeId:=match h[b]? with|some (.cells _ t _)=>some t|_=>none
theorem hset_typ(h:H)(b o i:Nat)(v:Value):htyp (hset h b o v) i=htyp h i:=by
 unfold htyp hset
 rw[Array.getElem?_modify]
 by_cases e:b=i
 ·subst e
  rw[if_pos rfl]
  cases h[b]? with
  |none=>rfl
  |some x=>cases x<;>rfl
 ·rw[if_neg e]
theorem hsets_typ(b i:Nat): ∀(l:List Value) (h:H) (o:Nat),htyp (hsets h b o l) i=htyp h i
 |[],_,_=>rfl
 |v::l,h,o=>by
  show htyp (hsets (hset h b o v) b (o+1) l) i=_
  rw[hsets_typ b i l,hset_typ]
def TypP(e:TypeId)(v:Value)(h:H)(v':Value)(h':H):Prop:= ∀i,OwnB v' i→htyp h' i=some e∨(OwnB v i∧htyp h' i=htyp h i)
theorem ownb_some{b o:Nat}{s:Option Nat}{n c i:Nat}:OwnB (.slice (some ⟨b,o,s⟩) n c) i→i=b:=by
 rintro ⟨o',n',c',e⟩;cases e;rfl
theorem ownb_none{n c i:Nat}: ¬OwnB (.slice none n c) i:=by rintro ⟨o',n',c',e⟩;cases e
theorem app_typ {G:Ctr} {e:TypeId} {sz bytes:Nat} {z:List Value} {v w:Value} {h:H} {K K':Value→H→Prop} {KP:List PanicEntry→H→Prop}
  (H1:fpre G (.app e sz bytes z) [v,w] h K KP) (hK: ∀v' h',K v' h'→TypP e v h v' h'→K' v' h'):fpre G (.app e sz bytes z) [v,w] h K' KP:=by
 simp only[fpre]at H1 ⊢
 split at H1<;>try (exact H1.elim)
 rename_i a n c b m d
 obtain⟨q1,q2,q3,q4,olds,news,q5,q6,q7,q8⟩:=H1
 refine⟨q1,q2,q3,q4,olds,news,q5,q6,fun hle=> ?_,fun hlt cap c1 c2=>hK _ _ (q8 hlt cap c1 c2) fun i hi=> .inl ?_⟩
 ·have:=q7 hle
  split at this
  ·exact hK _ _ this fun i hi=>absurd hi ownb_none
  ·rename_i bb o
   refine⟨this.1,hK _ _ this.2 fun i hi=> .inr ⟨?_,hsets_typ _ _ _ _ _⟩⟩
   cases ownb_some hi
   exact⟨_,_,_,rfl⟩
  ·exact this.elim
 ·cases ownb_some hi
  unfold htyp
  rw[Array.getElem?_push_size]
theorem apps_typ {G:Ctr} {e:TypeId} {v w:Value} {h:H} {K K':Value→H→Prop} {KP:List PanicEntry→H→Prop}
  (H1:fpre G (.apps e) [v,w] h K KP) (hK: ∀v' h',K v' h'→TypP e v h v' h'→K' v' h'):fpre G (.apps e) [v,w] h K' KP:=by
 simp only[fpre]at H1 ⊢
 split at H1<;>try (exact H1.elim)
 rename_i a n c
 obtain⟨q1,q2,q3,q4,olds,q5,q7,q8⟩:=H1
 refine⟨q1,q2,q3,q4,olds,q5,fun hle=> ?_,fun hlt cap c1 c2=>hK _ _ (q8 hlt cap c1 c2) fun i hi=> .inl ?_⟩
 ·have:=q7 hle
  split at this
  ·exact hK _ _ this fun i hi=>absurd hi ownb_none
  ·rename_i bb o
   refine⟨this.1,hK _ _ this.2 fun i hi=> .inr ⟨?_,hsets_typ _ _ _ _ _⟩⟩
   cases ownb_some hi
   exact⟨_,_,_,rfl⟩
  ·exact this.elim
 ·cases ownb_some hi
  unfold htyp
  rw[Array.getElem?_push_size]
def Bld(T e:TypeId)(k:Nat)(u:U)(h:H)(b:Nat)(l:List UInt8):Prop:= ∃p v,h[b]? =some (.cells #[p,v] T (0,0))∧(p= .pointer none∨p= .pointer (some ⟨b,0,none⟩))∧OwnY k u h v l∧ ¬OwnB v b∧u b=0∧k≤b∧ ∀i,OwnB v i→htyp h i=some e
def BldB(h:H)(b:Nat):Nat→Prop:=fun i=>i=b∨OwnB (Go.Ev.hv h b 1) i
theorem Bld.lt{T e:TypeId}{k:Nat}{u:U}{h:H}{b:Nat}{l:List UInt8}(k1:Bld T e k u h b l):b<h.size:=by
 obtain⟨p,v,hb,_⟩:=k1
 exact(Array.getElem?_eq_some_iff.1 hb).1
theorem Bld.ge{T e:TypeId}{k:Nat}{u:U}{h:H}{b:Nat}{l:List UInt8}(k1:Bld T e k u h b l){i:Nat}(hi:BldB h b i):k≤i∧i<h.size:=by
 have hlt:=k1.lt
 obtain⟨p,v,hb,hp,ho,hn,hu,hk,ht⟩:=k1
 rcases hi with rfl|hi
 ·exact⟨hk,hlt⟩
 ·have e1:Go.Ev.hv h b 1=v:=by unfold Go.Ev.hv hc;rw[hb];rfl
  rw[e1]at hi
  refine⟨@Own.ge UInt8 repB8 _ _ _ _ _ ho _ hi,?_⟩
  have:=ht i hi
  unfold htyp at this
  cases hx:h[i]? with
  |none=>rw[hx]at this;cases this
  |some x=>exact(Array.getElem?_eq_some_iff.1 hx).1
theorem Bld.step{T e:TypeId}{k:Nat}{S:Nat→Prop}{u u':U}{h h':H}{b:Nat}{l:List UInt8}(k1:Bld T e k u h b l)(s:Step S u h u' h')(hn: ∀i,BldB h b i→ ¬S i):Bld T e k u' h' b l∧Go.Ev.hv h' b 1=Go.Ev.hv h b 1:=by
 have hlt:=k1.lt
 have hge:=fun i hi=>(k1.ge (i:=i) hi).2
 obtain⟨p,v,hb,hp,ho,hn1,hu,hk,ht⟩:=k1
 have e1:Go.Ev.hv h b 1=v:=by unfold Go.Ev.hv hc;rw[hb];rfl
 have hS: ∀i,OwnB v i→ ¬S i:=fun i hi=>hn i (.inr (by rw[e1];exact hi))
 obtain⟨s1,s2⟩:=s.same b hlt (hn b (.inl rfl))
 refine⟨⟨p,v,by rw[s1];exact hb,hp,@Own.step UInt8 repB8 _ _ _ _ _ _ _ _ ho s hS,hn1,by rw[s2];exact hu,hk,fun i hi=> ?_⟩,by unfold Go.Ev.hv hc;rw[s1]⟩
 have:=(s.same i (hge i (.inr (by rw[e1];exact hi))) (hS i hi)).1
 unfold htyp;rw[this];exact ht i hi
theorem Bld.step0{T e:TypeId}{k:Nat}{u u':U}{h h':H}{b:Nat}{l:List UInt8}(k1:Bld T e k u h b l)(s:Step S0 u h u' h'):Bld T e k u' h' b l∧Go.Ev.hv h' b 1=Go.Ev.hv h b 1:=k1.step s (fun _ _ h=>h)
theorem Bld.kit{T e:TypeId}{k:Nat}{u:U}{w:World}{b:Nat}{l:List UInt8}(k1:Bld T e k u w.heap b l):Lib.IsBuilder T e k b (Lib.byteCells l) w:=by
 obtain⟨p,v,hb,hp,ho,hn1,hu,hk,ht⟩:=k1
 have hat:Lib.BuilderAt T e k b p (Lib.byteCells l) w:=by
  refine⟨hk,v,hb,⟨by rw[Nat.mul_one],?_⟩,fun hv=> ?_⟩
  ·rw[Lib.byteCells_length]
   rcases ho with⟨rfl,rfl⟩|⟨g,c,rfl,h1,h2,h3,h4,h5,h6,h7,h8⟩
   ·exact .inl ⟨rfl,rfl⟩
   ·refine .inr ⟨g,c,?_⟩
    have hty:=ht g ⟨_,_,_,rfl⟩
    unfold htyp at hty
    cases hx:w.heap[g]? with
    |none=>rw[hx]at hty;cases hty
    |some x=>
     rw[hx]at hty
     cases x with
     |cells cs t f=>
      simp only[Option.some.injEq]at hty
      subst hty
      have e1:cs.size=c*1:=by unfold hsz at h5;rw[hx]at h5;exact h5
      have e2:f=(0,0):=by unfold hfr at h6;rw[hx]at h6;exact h6
      subst e2
      refine⟨cs,rfl,h3,rfl,h1,h2,e1,?_⟩
      apply List.ext_getElem?
      intro i
      by_cases hi:i<l.length
      ·have:=h8 i l[i] (by simp [hi])
       rw[szY,hvs_1,Nat.mul_one]at this
       have e:Go.Ev.hv w.heap g i=Value.int .u8 l[i].toNat:=by simpa using (show [Go.Ev.hv w.heap g i]=[Value.int .u8 l[i].toNat]from this)
       unfold Go.Ev.hv hc at e
       rw[hx]at e
       have hic:i<cs.size:=by omega
       simp only[Array.getElem?_eq_getElem hic,Option.getD_some]at e
       rw[Nat.mul_one,List.getElem?_take,if_pos hi,Array.getElem?_toList,Array.getElem?_eq_getElem hic,e]
       simp [Lib.byteCells,hi]
      ·rw[Nat.mul_one,List.getElem?_take,if_neg hi,List.getElem?_eq_none (by rw[Lib.byteCells_length];omega)]
     |_=>cases hty
  ·cases v with
   |slice a n c=>
    cases a with
    |none=>cases hv
    |some a=>
     simp only[Value.ownBlock,Option.some.injEq]at hv
     obtain⟨ab,ao,asx⟩:=a
     rcases ho with⟨he,-⟩|⟨g,c',he,-⟩
     ·cases he
     ·cases he
      exact hn1 ⟨_,_,_,by rw[←hv]⟩
   |_=>cases hv
 rcases hp with rfl|rfl
 ·exact .inl hat
 ·exact .inr hat
theorem Bld.open{T e:TypeId}{k:Nat}{u:U}{h:H}{b:Nat}{l:List UInt8}(k1:Bld T e k u h b l):hsz h b=2∧hfr h b=(0,0)∧u b=0∧OwnY k u h (Go.Ev.hv h b 1) l∧ ¬OwnB (Go.Ev.hv h b 1) b∧ ∀i,OwnB (Go.Ev.hv h b 1) i→htyp h i=some e:=by
 obtain⟨p,v,hb,hp,ho,hn,hu,hk,ht⟩:=k1
 have e1:Go.Ev.hv h b 1=v:=by unfold Go.Ev.hv hc;rw[hb];rfl
 rw[e1]
 exact⟨by unfold hsz;rw[hb];rfl,by unfold hfr;rw[hb],hu,ho,hn,ht⟩
theorem bld_app {T e:TypeId} {k:Nat} {u u1 u2:U} {h h1 h2:H} {b:Nat} {l l':List UInt8} {v':Value} (B:Bld T e k u h b l) (s1:Step (fun i=>i=b) u h u1 h1) (B1:Bld T e k u1 h1 b l) (e1:Go.Ev.hv h1 b 1=Go.Ev.hv h b 1)
  (ho:OwnY k u2 h2 v' l') (s2:Step (OwnB (Go.Ev.hv h b 1)) u1 h1 u2 h2) (hb: ∀i,OwnB v' i→OwnB (Go.Ev.hv h b 1) i∨h1.size≤i) (ht:TypP e (Go.Ev.hv h b 1) h1 v' h2):
  Step (BldB h b) u h u2 (hset h2 b 1 v')∧Bld T e k u2 (hset h2 b 1 v') b l'∧ ∀i,BldB (hset h2 b 1 v') b i→BldB h b i∨h.size≤i:=by
 have hlt:=B1.lt
 have hltB:=B.lt
 obtain⟨_,_,hub,ho1,hn1,hty1⟩:=B1.open
 rw[e1]at ho1 hn1 hty1
 obtain⟨p,v,hbk,hp,-,-,-,hk,-⟩:=B1
 obtain⟨q1,q2⟩:=s2.same b hlt hn1
 have hbk2:h2[b]? =some (.cells #[p,v] T (0,0)):=by rw[q1];exact hbk
 have hnb: ¬OwnB v' b:=fun hB=>by
  rcases hb b hB with h|h
  ·exact hn1 h
  ·omega
 have hget: ∀i,(hset h2 b 1 v')[i]? =if i=b then some (.cells #[p,v'] T (0,0))else h2[i]? :=fun i=>by
  rw[hset_get]
  by_cases e:i=b
  ·subst e;rw[if_pos rfl,if_pos rfl,hbk2];rfl
  ·rw[if_neg e,if_neg e]
 have e3:Go.Ev.hv (hset h2 b 1 v') b 1=v':=by unfold Go.Ev.hv hc;rw[hget,if_pos rfl];rfl
 have sw:Step (fun i=>i=b) u2 h2 u2 (hset h2 b 1 v'):=Step.set u2 h2 v' rfl (by rw[q2,hub];exact Nat.zero_le _)
 have s12:Step (BldB h b) u h u2 h2:=(s1.mono (S':=BldB h b) (fun i _ hi=> .inl hi)).trans s2 (fun i _ hi=> .inr hi)
 refine⟨s12.trans sw (fun i _ hi=> .inl hi),⟨p,v',by rw[hget,if_pos rfl],hp,?_,hnb,by rw[q2];exact hub,hk,fun i hi=> ?_⟩,fun i hi=> ?_⟩
 ·exact @Own.step UInt8 repB8 _ _ _ _ _ _ _ _ ho sw (fun i hi e=>hnb (by have e:i=b:=e;rw[←e];exact hi))
 ·rw[hset_typ]
  rcases ht i hi with h|⟨h3,h4⟩
  ·exact h
  ·rw[h4];exact hty1 i h3
 ·rcases hi with rfl|hi
  ·exact .inl (.inl rfl)
  ·rw[e3]at hi
   rcases hb i hi with h|h
   ·exact .inl (.inr h)
   ·exact .inr (Nat.le_trans s1.ge.sz h)
end Go.Ev
end Merged
end Merged
