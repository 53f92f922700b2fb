/- strings.Builder's copyCheck, laid at this dump (the shelf's own tool passes it over). -/
import Derived.Shelf.Lays
import Derived.Shelf.Strings.Builder1
import Derived.Test.YtmjinnbdnpedcaaGreatProg
namespace Go.Proofs
open Go.Shelf
def Tryz.lays240_ren:Go.Shelf.Ren:=⟨fun|240=>129|276=>130|n=>n,fun|37=>166|5=>5|0=>0|4=>4|9=>9|20=>20|70=>165|72=>168|164=>203|n=>n,fun|n=>n⟩
theorem Tryz.lays240:Go.Proofs.Lays.n240 Tryz.prog Tryz.lays240_ren:={
 mixed:=by kernel_rfl
 f240:=Tryz.func129.trans (congrArg some (by kernel_rfl))
 f276:=Tryz.func130.trans (congrArg some (by kernel_rfl))
 t0:=Tryz.underlying0
 a0:=Tryz.isAgg0
 z0:=Tryz.sizeOf0
 v0:=Tryz.zeroValue0
 t4:=Tryz.underlying4
 a4:=Tryz.isAgg4
 z4:=Tryz.sizeOf4
 v4:=Tryz.zeroValue4
 t9:=Tryz.underlying9
 a9:=Tryz.isAgg9
 z9:=Tryz.sizeOf9
 v9:=Tryz.zeroValue9
 t20:=Tryz.underlying20
 a20:=Tryz.isAgg20
 z20:=Tryz.sizeOf20
 v20:=Tryz.zeroValue20
 t70:=Tryz.underlying165
 a70:=Tryz.isAgg165
 z70:=Tryz.sizeOf165
 v70:=Tryz.zeroValue165
 t72:=Tryz.underlying168
 a72:=Tryz.isAgg168
 z72:=Tryz.sizeOf168
 v72:=Tryz.zeroValue168
 t164:=Tryz.underlying203
 a164:=Tryz.isAgg203
 z164:=Tryz.sizeOf203
 v164:=Tryz.zeroValue203}
theorem Tryz.Builder_X72_240:Builder.X72 Tryz.prog Tryz.lays240_ren:={
 sizeBuilder:=by kernel_rfl
 liesBuilder:=by kernel_rfl}
end Go.Proofs
