/- A part of the proof. -/
import Derived.Test.YtbnkepecoeohjaaGreatDoorLexC
import Derived.Test.YtbnkepecoeohjaaGreatDoorTaJ
import Derived.Lib.LaidTab
set_option linter.all false
namespace Go.Proofs.Z
open Go.Proofs.YtbnkepecoeohjaaGreatDoor
open Go Go.Ev Edict Go.ChangeShapes Go.WideShapes Go.ChangeAt Go.RowKit
theorem Py {H:Type} {enc:TypeId×Value->H} {P:Program} {w:World} {base:Nat} {sp:Nat->Bool} {held:Bool} {fuel:Nat} {t e:TypeId} {n:Nat} {cs:List Value} {zs:List (List UInt8)} {p:List MemPlace}
  (ht:P.underlying t=some (.array n e)) (he:P.underlying e=some .string) (hce:P.cellsOf e=1) (hct:P.cellsOf t=n)
  (h:DataW.trod enc P w base sp held fuel t cs=some (.agg (zs.map λz=> .lit (.string z)),p)):cs=zs.map str:=by
 match fuel,h with
 |fuel+1,h=>
  simp only[DataW.trod,ht,hce,hct,aZ]at h
  split at h
  case isFalse=>cases h
  rename_i hl
  obtain⟨xs,hm,hx⟩:=aU.1 h
  have hxs:xs.map (·.1)=zs.map λz=>(DataW.lit (.string z):DataW H):=by simpa using bL Prod.fst hx
  have hxl:xs.length=n:=by simpa using Go.Lib.mapM_length hm
  have hzl:zs.length=n:=by
   have:=bL List.length hxs
   rw[aQ,aQ]at this
   omega
  have hcl:cs.length=n:=by simpa using hl
  refine bW λi=> ?_
  by_cases hi:i<n
  ·obtain⟨b,hb,hf⟩:=Go.Lib.mapM_at hm i i (by simp [hi])
   obtain⟨s,hc,rfl,-⟩:=DataW.trod_string he hf
   have h1:cs[i]? =some (.string s):=by
    have:=bL (·[0]?) hc
    simpa [bV,dz]using this
   have h2:(xs.map (·.1))[i]? =some (DataW.lit (.string s.data.toList):DataW H):=by rw[aR,hb];rfl
   rw[hxs,aR]at h2
   cases hz:zs[i]? with
   |none=>rw[hz]at h2;cases h2
   |some z=>
    rw[hz]at h2
    simp only[bH,bQ,DataW.lit.injEq,Lit.string.injEq]at h2
    rw[h1,aR,hz,h2]
    rfl
  ·rw[aW (by omega),aW (by rw[aQ];omega)]
theorem VH{P:Program}{W:World}{g n:Nat}{cs:Array Value}(hn:cs.size=n)(h0:0<n)(q:(match W.heap[g]? with|some (.cells cs _ _)=>some cs|_=>none)=some cs):hsz W.heap g=n/\g<W.heap.size:=by
 cases hx:W.heap[g]? with
 |none=>rw[hx]at q;cases q
 |some o=>
  rw[hx]at q
  refine⟨?_,(bN.1 hx).1⟩
  unfold hsz
  rw[hx]
  cases o with
  |cells cs' t' f'=>
   simp only[bQ]at q
   show cs'.size=n
   rw[q];exact hn
  |_=>cases q
set_option maxRecDepth 100000 in
theorem ahj{W:World}(h:laidMetH Tryz.prog Rows.topPlanRow.laid W):EW (hsz W.heap) W.heap:=by
 rw[MakeChecks.laidMetH_plain _ _ _ (by kernel_rfl)]at h
 obtain ⟨g, t, cs, fuel, p, q1, q2, q3, q4⟩ := Lib.laidMet.reads h (n := "edict/edicttop.ops") (d := Rows.laid_edict_edicttop_ops) (by simp [Rows.topPlanRow])
 obtain rfl : 0 = g := bu ((show Tryz.prog.globalNamed "edict/edicttop.ops" = some 0 by kernel_rfl).symm.trans q1)
 obtain rfl:229=t:=bu ((show(Tryz.prog.globals[0]?).map (·.type)=some 229 by kernel_rfl).symm.trans q2)
 obtain ⟨g', t', cs', fuel', p', r1, r2, r3, r4⟩ := Lib.laidMet.reads h (n := "edict/edicttop.marks") (d := Rows.laid_edict_edicttop_marks) (by simp [Rows.topPlanRow])
 obtain rfl : 1 = g' := bu ((show Tryz.prog.globalNamed "edict/edicttop.marks" = some 1 by kernel_rfl).symm.trans r1)
 obtain rfl:230=t':=bu ((show(Tryz.prog.globals[1]?).map (·.type)=some 230 by kernel_rfl).symm.trans r2)
 have q4':DataW.trod (λ_=>()) Tryz.prog W 0 (λ_=>true) false fuel 229 cs.toList=some (.agg (((List.range 7).map λi:Nat=>opF i).map λz=> .lit (.string z)),p):=q4
 have r4':DataW.trod (λ_=>()) Tryz.prog W 0 (λ_=>true) false fuel' 230 cs'.toList=some (.agg (((List.range 12).map λi:Nat=>Wi i).map λz=> .lit (.string z)),p'):=r4
 have hcs:=Py (n:=7) (e:=9) Tryz.underlying229 Tryz.underlying9 (by kernel_rfl) (by kernel_rfl) q4'
 have hcs':=Py (n:=12) (e:=9) Tryz.underlying230 Tryz.underlying9 (by kernel_rfl) (by kernel_rfl) r4'
 have hs:cs.size=7:=by have:=bL List.length hcs;simpa using this
 have hs':cs'.size=12:=by have:=bL List.length hcs';simpa using this
 have hcell: ∀i,W.cell? ⟨0,i,none⟩=cs[i]? :=λi=>World.var?_cell q1 q3 i
 have hcell': ∀i,W.cell? ⟨1,i,none⟩=cs'[i]? :=λi=>World.var?_cell r1 r3 i
 unfold World.var? at q3 r3
 rw[q1,eX]at q3
 rw[r1,eX]at r3
 obtain⟨z1,z2⟩:=VH (P:=Tryz.prog) hs (by omega) q3
 obtain⟨y1,y2⟩:=VH (P:=Tryz.prog) hs' (by omega) r3
 refine⟨z2,y2,z1,y1,by rw[z1];exact aH _,by rw[y1];exact aH _,λi hi=> ?_,λi hi=> ?_⟩
 ·have h1:=hcell i
  rw[qf]at h1
  unfold Go.Ev.hv
  rw[h1,<-dX,hcs,gX,aR,bT hi]
  rfl
 ·have h1:=hcell' i
  rw[qf]at h1
  unfold Go.Ev.hv
  rw[h1,<-dX,hcs',gX,aR,bT hi]
  rfl
end Go.Proofs.Z
