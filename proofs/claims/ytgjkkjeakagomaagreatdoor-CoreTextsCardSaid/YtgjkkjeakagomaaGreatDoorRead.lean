/- A part of the proof. -/
import Derived.Test.YtgjkkjeakagomaaGreatDoorRows
import Derived.Test.YtgjkkjeakagomaaGreatDoorData
import Derived.WalkKit
import Derived.ProofKit
import Derived.OpenShut
import Derived.JoinedCond
import Derived.WideKeyArgs
import Derived.Deep.Slices
set_option linter.all false
namespace Go.Proofs.Z
open Go.Proofs.YtgjkkjeakagomaaGreatDoor
open Go Go.Ev Go.ChangeShapes Go.WideShapes Go.ChangeAt Go.RowKit
variable {W W':World} {f:Field} {o:Nat}
def CO(P:Program)(t:TypeId)(α:Type) [Rep α]:Prop:= ∀{H:Type} (enc:TypeId×Value->H) (w:World) {hd:Bool} (fuel:Nat) (cs:List Value) (x:DataW H×List MemPlace),
 DataW.trod enc P w 0 (λ_=>true) hd fuel t cs=some x-> ∃a:α,Rep.rep (lS w.heap) w.heap a cs/\Rep.wf a/\Rep.bulk a<=Rows.uptoBulk x.1
variable {P:Program} {t e:TypeId}
theorem Lp(ht:P.underlying t=some (.int .i64)):CO P t Int:=by
 intro H enc w hd fuel cs x h
 obtain⟨n,rfl,rfl,hw⟩:=DataW.trod_int ht h
 refine⟨n,rfl,?_,ak _⟩
 have e1:IntKind.i64.min= -9223372036854775808:=zD
 have e2:IntKind.i64.max=9223372036854775807:=zD
 simp only[Lit.wf,aM,aL,e1,e2]at hw
 exact hw
theorem Et(ht:P.underlying t=some .string):CO P t (List UInt8):=by
 intro H enc w hd fuel cs x h
 obtain⟨s,rfl,rfl,hs⟩:=DataW.trod_string ht h
 refine⟨s.data.toList,by rw[mE,abH],?_,?_⟩
 ·show s.data.toList.length<=maxLen
  rw[dm];exact hs
 ·show s.data.toList.length+1<=Rows.uptoBulk (.lit (.string s.data.toList))
  simp [Rows.uptoBulk]
def MO(P:Program)(fs:List Field)(o:Nat)(α:Type) [Rep α]:Prop:= ∀{H:Type} (enc:TypeId×Value->H) (w:World) {hd:Bool} (n:Nat) (cs:List Value) (xs:List (DataW H×List MemPlace)),cs.length=o+Rep.sz α->
 xs.length=fs.length->(∀(i:Nat) (f:Field),fs[i]? =some f->DataW.trod enc P w 0 (λ_=>true) hd n f.type ((cs.drop f.offset).take (P.cellsOf f.type))=xs[i]?)->
 ∃a:α,Rep.rep (lS w.heap) w.heap a (cs.drop o)/\Rep.wf a/\Rep.bulk a<=Rows.uptoBulkAll (xs.map (·.1))
theorem Uf{α:Type} [Rep α](r:CO P f.type α)(ho:f.offset=o)(hc:P.cellsOf f.type=Rep.sz α):MO P [f] o α:=by
 intro H enc w hd n cs xs hl hx hf
 match xs,hx with
 |[y],_=>
  have h0:=hf 0 f rfl
  simp only[bO]at h0
  obtain⟨a,h1,h2,h3⟩:=r enc w n _ y h0
  rw[ho,hc,cB (by rw[bY];omega)]at h1
  exact⟨a,h1,h2,by simp only[aS,bK,Rows.uptoBulkAll];omega⟩
theorem Fs{α β:Type} [Rep α] [Rep β]{fs:List Field}(r:CO P f.type α)(ho:f.offset=o)(hc:P.cellsOf f.type=Rep.sz α)(rs:MO P fs (o+Rep.sz α) β):MO P (f::fs) o (α×β):=by
 intro H enc w hd n cs xs hl hx hf
 match xs,hx with
 |y::ys,hx=>
  have h0:=hf 0 f rfl
  simp only[bO]at h0
  obtain⟨a,h1,h2,h3⟩:=r enc w n _ y h0
  rw[ho,hc]at h1
  rw[ae0]at hl
  obtain⟨b,k1,k2,k3⟩:=rs enc w n cs ys zO (by simpa using hx) (λi g hg=>by simpa using hf (i+1) g (by simpa using hg))
  refine⟨(a,b),?_,⟨h2,k2⟩,?_⟩
  ·rw[lg]
   exact⟨_,_,by rw[<-dS,bV],h1,k1⟩
  ·rw[Zd];simp only[aS,Rows.uptoBulkAll];omega
theorem MP{α:Type} [Rep α]{fs:Array Field}(ht:P.underlying t=some (.struct fs))(hc:P.cellsOf t=Rep.sz α)(r:MO P fs.toList 0 α):CO P t α:=by
 intro H enc w hd fuel cs x h
 obtain⟨xs,n,rfl,rfl,hl,hx,hf⟩:=DataW.trod_struct ht h
 obtain⟨a,h1,h2,h3⟩:=r enc w n cs xs zO (by simpa using hx) (λi f hi=>hf i f (by simpa using hi))
 refine⟨a,by simpa using h1,h2,?_⟩
 simp only[Rows.uptoBulk];omega
theorem Pt{H:Type}{α:Type} [Rep α](D:Nat->DataW H): ∀(l:List α) (k:Nat),(∀i x,l[i]? =some x->Rep.bulk x<=Rows.uptoBulk (D (k+i)))->bulkL l<=Rows.uptoBulkAll ((List.range' k l.length).map D)+1
 |[],_,_=>by simp [bulkL,Rows.uptoBulkAll]
 |x::l,k,h=>by
  have h0:=h 0 x rfl
  have ih:=Pt D l (k+1) (λi y hy=>by
   have:=h (i+1) y (by simpa using hy)
   rwa [show k+1+i=k+(i+1) by omega])
  simp only[au,iJ,aS,Rows.uptoBulkAll,bulkL]
  rw[dO]at h0
  omega
theorem Pv{α:Type} [Rep α](ht:P.underlying t=some (.slice e))(hc:P.cellsOf e=Rep.sz α)(r:CO P e α):CO P t (List α):=by
 intro H enc w hd fuel cs x h
 rcases Go.Deep.open_slice ht h with⟨rfl,rfl⟩|⟨a,len,cap,m,n,D,Pl,rfl,-,hlc,hcm,hm,rfl,hel⟩
 ·exact⟨[],⟨_,rfl,.nil _ _⟩,⟨aj _,λx hx=>by cases hx⟩,ak _⟩
 ·simp only[bv]at hm
  subst hm
  have hex: ∀i,i<len-> ∃x:α,∃cs',w.cells? 0 (a.add (i*P.cellsOf e)) (P.cellsOf e)=some cs'/\Rep.rep (lS w.heap) w.heap x cs'/\Rep.wf x/\Rep.bulk x<=Rows.uptoBulk (D i):=λi hi=>by
   obtain⟨cs',h1,h2⟩:=hel i zO
   obtain⟨x,h3,h4,h5⟩:=r enc w n cs' _ h2
   exact⟨x,cs',h1,h3,h4,h5⟩
  -- the list
  have hlist: ∀k,k<=len-> ∃l:List α,l.length=k/\ ∀i x,l[i]? =some x-> ∃cs',w.cells? 0 (a.add (i*P.cellsOf e)) (P.cellsOf e)=some cs'/\Rep.rep (lS w.heap) w.heap x cs'/\Rep.wf x/\Rep.bulk x<=Rows.uptoBulk (D i):=by
   intro k
   induction k with
   |zero=>exact λ_=>⟨[],rfl,λi x hx=>by simp at hx⟩
   |succ k ih=>
    intro hk
    obtain⟨l,h1,h2⟩:=ih zO
    obtain⟨x,hx⟩:=hex k zO
    refine⟨l++[x],by simp [h1],λi y hy=> ?_⟩
    by_cases hi:i<l.length
    ·rw[bM hi]at hy;exact h2 i y hy
    ·rw[dA zO]at hy
     have:i - l.length=0:=by
      have:=(aB.1 hy).1
      simp at this;omega
     rw[this]at hy
     simp only[bO,aQ]at hy
     subst hy
     have:i=k:=zO
     subst this;exact hx
  obtain⟨l,hl,hall⟩:=hlist len (ak _)
  have szp:=Rep.szp (α:=α)
  refine⟨l,⟨_,rfl,some a,len,_,rfl,hl.symm,hlc,hcm,(λh=>by cases h),λhne=> ?_⟩,⟨zO,λx hx=> ?_⟩,?_⟩
  ·-- the block
   have hcell: ∀i x,l[i]? =some x-> ∀j,j<Rep.sz α-> ∃v,w.cell? (a.add (i*Rep.sz α+j))=some v/\ ∀cs',w.cells? 0 (a.add (i*P.cellsOf e)) (P.cellsOf e)=some cs'->cs'[j]? =some v:=λi x hx j hj=>by
    obtain⟨cs',h1,h2,-⟩:=hall i x hx
    obtain⟨-,h3,h4⟩:=World.cells?_some h1
    rw[hc]at h3 h4
    have h5:=h4 j hj
    rw[Go.Deep.add_add]at h5
    refine⟨cs'[j]'zO,by rw[h5];simp,λcs2 h6=> ?_⟩
    rw[h1]at h6
    cases h6
    simp
   have h0l:0<l.length:=fQ.2 hne
   obtain⟨v0,hv0,-⟩:=hcell 0 l[0] zP 0 szp
   obtain⟨b,o,sp⟩:=a
   have hsp:sp=none:=by
    simp only[fB,dO]at hv0
    unfold Addr.add at hv0
    simp only[bv]at hv0
    unfold World.cell? at hv0
    cases sp with
    |none=>rfl
    |some s=>cases hh:w.heap[b]? <;>simp [hh]at hv0;rename_i ob;cases ob<;>simp at hv0
   subst hsp
   have hin: ∀i x,l[i]? =some x-> ∀j,j<Rep.sz α->o+(i*Rep.sz α+j)<lS w.heap b:=λi x hx j hj=>by
    obtain⟨v,hv,-⟩:=hcell i x hx j hj
    rw[Addr.add_lit,pY]at hv
    unfold Go.Ev.hc at hv
    unfold lS
    cases hh:w.heap[b]? with
    |none=>simp [hh]at hv
    |some ob=>
     cases ob<;>simp only[hh]at hv ⊢
     all_goals first|exact(bi.1 hv).1|cases hv
   have hend:o+l.length*Rep.sz α<=lS w.heap b:=by
    have:=hin (l.length - 1) l[l.length - 1] zP (Rep.sz α - 1) zO
    have e1:(l.length - 1)*Rep.sz α+Rep.sz α=l.length*Rep.sz α:=by
     rw[<-fC];congr 1;omega
    omega
   have hbl:b<w.heap.size:=by
    have:=hin 0 l[0] zP 0 szp
    unfold lS at this
    cases hh:w.heap[b]? with
    |none=>simp [hh]at this
    |some ob=>exact(bi.1 hh).1
   refine⟨b,o,rfl,hbl,hend,hend,λi x hx=> ?_⟩
   obtain⟨cs',h1,h2,-⟩:=hall i x hx
   have hcs:qV w.heap b (o+i*Rep.sz α) (Rep.sz α)=cs':=by
    refine CS (λj hj=> ?_) (Rep.len h2)
    obtain⟨v,hv,hv2⟩:=hcell i x hx j hj
    have:=hv2 cs' h1
    rw[aG,this,bZ]
    rw[Addr.add_lit,pY]at hv
    unfold Go.Ev.hv
    rw[ig,hv];rfl
   rw[hcs];exact h2
  ·obtain⟨i,hi,rfl⟩:=fq.1 hx
   obtain⟨cs',-,-,h3,-⟩:=hall i l[i] (by simp [hi])
   exact h3
  ·have:=Pt D l 0 (λi x hx=>by
    obtain⟨_,-,-,-,h4⟩:=hall i x hx
    rw[bJ];exact h4)
   rw[hl,<-gU]at this
   show bulkL l<=_
   simp only[Rows.uptoBulk]
   omega
theorem Zc(h:abG W.heap W'.heap){x:MemPlace}(hx:x.block<W.heap.size):W.sameAt W' x:=by
 cases x with
 |cell b o=>
  show W'.cell? _=W.cell? _
  unfold World.cell?
  rw[h.2 b hx]
 |map b=>exact h.2 b hx
theorem BQ{H:Type}{enc:TypeId×Value->H}(hl:laidOutB P=true){W W':World}{sp:Nat->Bool}: ∀{ts:List TypeId} {vs:List Value} {ds:List (DataW H)} {ps:List MemPlace},(∀t∈ts,P.readableRec t=true/\t<P.types.size)->
  DataW.TrodAll enc P W 0 (λ_=>true) true ts vs ds ps->(∀x∈ps,W.sameAt W' x)->(∀x∈ps,sp x.block=true)->DataW.TrodAll enc P W' 0 sp true ts vs ds ps
 |[],vs,ds,ps,_,h,_,_=>by
  obtain⟨rfl,rfl,rfl⟩:=trodAll_nil h
  exact trodAll_mk0
 |t::ts,vs,ds,ps,hr,h,hs,hp=>by
  obtain⟨v,vs',d,ds',p,q,rfl,rfl,rfl,h1,h2⟩:=trodAll_cons h
  exact trodAll_cons_mk (WideElems.Trod_stays hl (hr t zP).1 (hr t zP).2 h1 (λx hx=>hs x (by simp [hx])) (λx hx=>hp x (by simp [hx])))
   (BQ hl (λu hu=>hr u (by simp [hu])) h2 (λx hx=>hs x (by simp [hx])) (λx hx=>hp x (by simp [hx])))
theorem abC {H:Type} {enc:TypeId×Value->H} {f:Func} {s:ChangeSpec} {args:Array Value} {ds gs:List (DataW H)} {before:List MemPlace} {tb:TypeId} (hl:laidOutB P=true) (hres:f.resultTypes= #[tb]) (hb:P.underlying tb=some .bool)
  (hr: ∀t∈f.params.toList,P.readableRec t=true/\t<P.types.size) (hW:DataW.Whole enc P f.params.toList s.vars false W args.toList ds gs before) (hv:s.vars=[]) (hfn:s.fn H (ds++gs)={results:=[.lit (.bool true)],args:=ds,vars:=[]})
  (hg:pM W W') (he:abG W.heap W'.heap):s.post enc P f false true false false W args (.bool true) W':=by
 have hW':=hW
 have hlt:=hW.lt
 obtain⟨p,q,hA,hV,rfl,hfz,hnd⟩:=hW
 rw[hv]at hV
 obtain⟨rfl,rfl⟩:=trodVars_none hV
 have hold: ∀x∈p++[],(λb=>decide (b<W.heap.size)) x.block=true:=λx hx=>by simpa using hlt x hx
 have hargs: ∀sp:Nat->Bool,(∀x∈p,sp x.block=true)->DataW.TrodAll enc P W' 0 sp true f.params.toList args.toList (s.fn H (ds++[])).args p:=λsp hsp=>by
  rw[hfn]
  exact BQ hl hr hA (λx hx=>Zc he (hlt x (by simp [hx]))) hsp
 have hresult: ∀(b:Nat) (sp:Nat->Bool) (hd:Bool),DataW.TrodAll enc P W' b sp hd f.resultTypes.toList ((Value.bool true).resultList f.resultTypes.size) (s.fn H (ds++[])).results []:=λb sp hd=>by
  rw[hfn,hres]
  exact trodAll_cons_mk (shut_bool hb _) trodAll_mk0
 have hvars: ∀sp:Nat->Bool,DataW.TrodVars enc P W' sp s.vars (s.fn H (ds++[])).vars []:=λsp=>by rw[hfn,hv];rfl
 refine⟨ds,[],p++[],[],p,[],hW',hresult _ _ _,hargs _ (λx hx=>hold x (by simpa using hx)),hvars _,World.keptBut_mono (λ_ h=>h.elim) (ae1 hg he),λ_=> ?_⟩
 refine⟨ok_one (by rw[hres]) rfl (okWide_bool_mk hb _),_,_,([]++p)++[],⟨[]++p,[],trodAll_append (hargs _ (λ_ _=>rfl)) (hresult _ _ _),hvars _,rfl,?_,?_⟩,?_⟩
 ·intro b off hp
  have hlb:b<W.heap.size:=hlt (.cell b off) (by simpa using hp)
  have:=hfz b off (by simpa using hp)
  unfold World.frozen? at this ⊢
  rw[he.2 b hlb];exact this
 ·intro ha;cases ha
 ·intro x hx _
  simpa using hx
end Go.Proofs.Z
