/- A part of the proof: LyB. -/
import Derived.Shelf.Strings.Builder1
import Derived.Test.YtcepfnkhagkdeaaGreatDoorProg
set_option linter.all false
open Go.Proofs.Tryz
section
namespace Go.Proofs
open Go.Shelf
def Tryz.lays169_ren:Go.Shelf.Ren:=⟨λ|169=>62|n=>n,λ|70=>112|9=>9|0=>0|72=>114|37=>26|127=>168|3=>3|5=>5|n=>n,λ|n=>n⟩
theorem Tryz.lays169:Go.Proofs.Lays.n169 Tryz.prog Tryz.lays169_ren:={
 mixed:=by kernel_rfl
 f169:=func62.trans (congrArg some (by kernel_rfl))
 t0:=underlying0
 a0:=isAgg0
 z0:=sizeOf0
 v0:=zeroValue0
 t3:=underlying3
 a3:=isAgg3
 z3:=sizeOf3
 v3:=zeroValue3
 t9:=underlying9
 a9:=isAgg9
 z9:=sizeOf9
 v9:=zeroValue9
 t37:=underlying26
 a37:=isAgg26
 z37:=sizeOf26
 v37:=zeroValue26
 t70:=underlying112
 a70:=isAgg112
 z70:=sizeOf112
 v70:=zeroValue112
 t72:=underlying114
 a72:=isAgg114
 z72:=sizeOf114
 v72:=zeroValue114
 t127:=underlying168
 a127:=isAgg168
 z127:=sizeOf168
 v127:=zeroValue168 }
theorem Tryz.Builder_Extra_169:Builder.Extra Tryz.prog Tryz.lays169_ren:={
 sizeBuilder:=by kernel_rfl
 liesBuilder:=by kernel_rfl
 t5:=underlying5
 a5:=isAgg5
 z5:=sizeOf5
 v5:=zeroValue5
 infoByte:=by kernel_rfl
 cellsByte:=by kernel_rfl
 sizeByte:=by kernel_rfl
 neB5:=by decide }
def Tryz.lays156_ren:Go.Shelf.Ren:=⟨λ|156=>58|165=>99|166=>59|169=>62|240=>100|241=>153|276=>154|277=>206|n=>n,λ|31=>29|9=>9|3=>3|4=>4|0=>0|20=>20|72=>114|76=>117|70=>112|37=>26|75=>116|127=>168|164=>212|5=>5|80=>121|n=>n,λ|n=>n⟩
theorem Tryz.lays156:Go.Proofs.Lays.n156 Tryz.prog Tryz.lays156_ren:={
 mixed:=by kernel_rfl
 f156:=func58.trans (congrArg some (by kernel_rfl))
 f165:=func99.trans (congrArg some (by kernel_rfl))
 f166:=func59.trans (congrArg some (by kernel_rfl))
 f169:=func62.trans (congrArg some (by kernel_rfl))
 f240:=func100.trans (congrArg some (by kernel_rfl))
 f241:=func153.trans (congrArg some (by kernel_rfl))
 f276:=func154.trans (congrArg some (by kernel_rfl))
 f277:=func206.trans (congrArg some (by kernel_rfl))
 t0:=underlying0
 a0:=isAgg0
 z0:=sizeOf0
 v0:=zeroValue0
 t3:=underlying3
 a3:=isAgg3
 z3:=sizeOf3
 v3:=zeroValue3
 t4:=underlying4
 a4:=isAgg4
 z4:=sizeOf4
 v4:=zeroValue4
 t9:=underlying9
 a9:=isAgg9
 z9:=sizeOf9
 v9:=zeroValue9
 t20:=underlying20
 a20:=isAgg20
 z20:=sizeOf20
 v20:=zeroValue20
 t31:=underlying29
 a31:=isAgg29
 z31:=sizeOf29
 v31:=zeroValue29
 t37:=underlying26
 a37:=isAgg26
 z37:=sizeOf26
 v37:=zeroValue26
 t70:=underlying112
 a70:=isAgg112
 z70:=sizeOf112
 v70:=zeroValue112
 t72:=underlying114
 a72:=isAgg114
 z72:=sizeOf114
 v72:=zeroValue114
 t75:=underlying116
 a75:=isAgg116
 z75:=sizeOf116
 v75:=zeroValue116
 t76:=underlying117
 a76:=isAgg117
 z76:=sizeOf117
 v76:=zeroValue117
 t127:=underlying168
 a127:=isAgg168
 z127:=sizeOf168
 v127:=zeroValue168
 t164:=underlying212
 a164:=isAgg212
 z164:=sizeOf212
 v164:=zeroValue212 }
theorem Tryz.Builder_Extra_156:Builder.Extra Tryz.prog Tryz.lays156_ren:={
 sizeBuilder:=by kernel_rfl
 liesBuilder:=by kernel_rfl
 t5:=underlying5
 a5:=isAgg5
 z5:=sizeOf5
 v5:=zeroValue5
 infoByte:=by kernel_rfl
 cellsByte:=by kernel_rfl
 sizeByte:=by kernel_rfl
 neB5:=by decide }
end Go.Proofs
end
