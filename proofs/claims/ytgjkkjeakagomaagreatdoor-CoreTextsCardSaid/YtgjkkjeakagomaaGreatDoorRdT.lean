/- A part of the proof. -/
import Derived.Test.YtgjkkjeakagomaaGreatDoorLexC
import Derived.Test.YtgjkkjeakagomaaGreatDoorKpB
import Derived.HandedShaped
set_option linter.all false
namespace Go.Proofs.Z
open Go Go.Ev Edict Go.ChangeShapes Go.WideShapes Go.ChangeAt Go.RowKit
/- The table of powers has twenty numbers, whichever. -/
set_option maxRecDepth 100000 in
set_option linter.constructorNameAsVariable false in
theorem af2{W:World}(h:W.ShapedOpen Tryz.prog):Ac (lS W.heap) W.heap:=by
 obtain⟨cs,hh,hs,hr⟩:=h.1 3 (Array.replicate 20 (.int .u64 0)) 273 (of_decide_eq_true (by kernel_rfl)) (by kernel_rfl)
 have hz:lS W.heap 3=20:=by
  unfold lS
  rw[hh]
  exact hs.trans ji
 have hl:3<W.heap.size:=(bi.1 hh).1
 refine⟨hl,hz,by rw[hz];exact ak _,λi hi=> ?_⟩
 obtain⟨ts,hts,_,hall⟩:=hr (by kernel_rfl)
 have hct:Tryz.prog.cellTypes Tryz.prog.depth 273=some (List.replicate 20 251):=by kernel_rfl
 rw[hct]at hts
 have hts:=bR hts
 subst hts
 have h1:i<cs.size:=by rw[hs,ji];exact hi
 obtain⟨u,hu',hok⟩:=hall i cs[i] (dN h1)
 have hu:u=251:=by
  rw[fM,Nat.mod_eq_of_lt hi,gI,ah hi]at hu'
  exact(bR hu').symm
 subst hu
 unfold Cell.ok at hok
 rw[show Tryz.prog.underlying 251=some (.int .u64)from Tryz.underlying251]at hok
 have hv:Go.Ev.hv W.heap 3 i=cs[i]:=by
  unfold Go.Ev.hv hc
  rw[hh]
  simp [h1]
 rw[hv]
 cases hc:cs[i]<;>rw[hc]at hok<;>simp at hok
 case int k' n=>exact⟨n,by rw[hok.1]⟩
end Go.Proofs.Z
