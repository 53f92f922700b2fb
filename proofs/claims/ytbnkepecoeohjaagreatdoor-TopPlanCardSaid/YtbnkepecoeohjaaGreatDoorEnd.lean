/- A part of the proof. -/
import Derived.Test.YtbnkepecoeohjaaGreatDoorEvB
import Derived.RowKit3
set_option linter.all false
namespace Go.Ev
open Go
def Zy(h h':H):Prop:=h.size<=h'.size/\ ∀b<h.size,h'[b]? =h[b]?
theorem acA{w w':World}(k:oZ w w')(h:Zy w.heap w'.heap):w.keptBut w' (λ_=>False):=by
 refine⟨k.os,k.output,λi hi=> ?_⟩
 rw[h.2 i hi]
 cases w.heap[i]? with
 |none=>rfl
 |some x=>cases x<;>simp
theorem Zz(b:ByteArray):Value.string b=str b.data.toList:=by simp [str]
end Go.Ev
