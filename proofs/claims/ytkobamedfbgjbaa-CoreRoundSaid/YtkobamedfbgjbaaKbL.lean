/- strings.Builder's copyCheck, laid at this dump (the shelf's own tool passes it over). -/
import Derived.Shelf.Lays
import Derived.Shelf.Strings.Builder1
import Derived.Test.YtkobamedfbgjbaaProg
namespace Go.Proofs
open Go.Shelf
def Try.lays240_ren : Go.Shelf.Ren := ⟨fun | 240 => 104 | 276 => 105 | n => n, fun | 37 => 147 | 5 => 5 | 0 => 0 | 4 => 4 | 9 => 9 | 20 => 20 | 70 => 161 | 72 => 163 | 164 => 196 | n => n, fun | n => n⟩
theorem Try.lays240 : Go.Proofs.Lays.n240 Try.prog Try.lays240_ren := {
  mixed := by kernel_rfl
  f240 := Try.func104.trans (congrArg some (by kernel_rfl))
  f276 := Try.func105.trans (congrArg some (by kernel_rfl))
  t0 := Try.underlying0
  a0 := Try.isAgg0
  z0 := Try.sizeOf0
  v0 := Try.zeroValue0
  t4 := Try.underlying4
  a4 := Try.isAgg4
  z4 := Try.sizeOf4
  v4 := Try.zeroValue4
  t9 := Try.underlying9
  a9 := Try.isAgg9
  z9 := Try.sizeOf9
  v9 := Try.zeroValue9
  t20 := Try.underlying20
  a20 := Try.isAgg20
  z20 := Try.sizeOf20
  v20 := Try.zeroValue20
  t70 := Try.underlying161
  a70 := Try.isAgg161
  z70 := Try.sizeOf161
  v70 := Try.zeroValue161
  t72 := Try.underlying163
  a72 := Try.isAgg163
  z72 := Try.sizeOf163
  v72 := Try.zeroValue163
  t164 := Try.underlying196
  a164 := Try.isAgg196
  z164 := Try.sizeOf196
  v164 := Try.zeroValue196 }
theorem Try.Builder_X72_240 : Builder.X72 Try.prog Try.lays240_ren := {
  sizeBuilder := by kernel_rfl
  liesBuilder := by kernel_rfl }
end Go.Proofs
