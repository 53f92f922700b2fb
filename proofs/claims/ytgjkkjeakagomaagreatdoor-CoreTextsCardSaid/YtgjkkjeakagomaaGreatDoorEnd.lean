/- A part of the proof. -/
import Derived.Test.YtgjkkjeakagomaaGreatDoorEvB
import Derived.RowKit3
set_option linter.all false
namespace Go.Ev
open Go
def abG(h h':H):Prop:=h.size<=h'.size/\ ∀b<h.size,h'[b]? =h[b]?
theorem ae1{w w':World}(k:pM w w')(h:abG w.heap w'.heap):w.keptBut w' (λ_=>False):=by
 refine⟨k.os,k.output,λi hi=> ?_⟩
 rw[h.2 i hi]
 cases w.heap[i]? with
 |none=>rfl
 |some x=>cases x<;>simp
theorem abH(b:ByteArray):Value.string b=str b.data.toList:=by simp [str]
end Go.Ev
