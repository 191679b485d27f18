/- A part of the proof: LySort. -/
import Derived.Shelf.SlLaysF
import Derived.Test.YtmoggbnlhllhaaaGreatDoorProg
set_option linter.all false
section
namespace Go.Proofs
open Go.Shelf
def Tryz.laysSort_ren:Go.Shelf.Ren:=⟨fun|6=>175|15=>94|14=>212|28=>160|29=>161|20=>232|21=>233|22=>234|23=>235|24=>236|25=>237|26=>238|27=>239|46=>256|47=>205|48=>206|49=>257|50=>258|57=>265|n=>n,fun|22=>85|24=>35|25=>256|3=>3|39=>183|0=>0|53=>34|55=>117|4=>4|46=>238|45=>237|50=>108|5=>5|9=>9|66=>281|70=>285|76=>303|77=>304|n=>n,fun|n=>n⟩
theorem Tryz.laysSort:Go.Proofs.SlLaysF.n6 Tryz.prog Tryz.laysSort_ren:={
 mixed:=by kernel_rfl
 f6:=⟨Tryz.f175.name,by decide,Tryz.func175.trans (congrArg some (by kernel_rfl))⟩
 f14:=⟨Tryz.f212.name,by decide,Tryz.func212.trans (congrArg some (by kernel_rfl))⟩
 f15:=Tryz.func94.trans (congrArg some (by kernel_rfl))
 f20:=⟨Tryz.f232.name,by decide,Tryz.func232.trans (congrArg some (by kernel_rfl))⟩
 f21:=⟨Tryz.f233.name,by decide,Tryz.func233.trans (congrArg some (by kernel_rfl))⟩
 f22:=⟨Tryz.f234.name,by decide,Tryz.func234.trans (congrArg some (by kernel_rfl))⟩
 f23:=⟨Tryz.f235.name,by decide,Tryz.func235.trans (congrArg some (by kernel_rfl))⟩
 f24:=⟨Tryz.f236.name,by decide,Tryz.func236.trans (congrArg some (by kernel_rfl))⟩
 f25:=⟨Tryz.f237.name,by decide,Tryz.func237.trans (congrArg some (by kernel_rfl))⟩
 f26:=⟨Tryz.f238.name,by decide,Tryz.func238.trans (congrArg some (by kernel_rfl))⟩
 f27:=⟨Tryz.f239.name,by decide,Tryz.func239.trans (congrArg some (by kernel_rfl))⟩
 f28:=Tryz.func160.trans (congrArg some (by kernel_rfl))
 f29:=Tryz.func161.trans (congrArg some (by kernel_rfl))
 f46:=⟨Tryz.f256.name,by decide,Tryz.func256.trans (congrArg some (by kernel_rfl))⟩
 f47:=Tryz.func205.trans (congrArg some (by kernel_rfl))
 f48:=Tryz.func206.trans (congrArg some (by kernel_rfl))
 f49:=⟨Tryz.f257.name,by decide,Tryz.func257.trans (congrArg some (by kernel_rfl))⟩
 f50:=⟨Tryz.f258.name,by decide,Tryz.func258.trans (congrArg some (by kernel_rfl))⟩
 f57:=⟨Tryz.f265.name,by decide,Tryz.func265.trans (congrArg some (by kernel_rfl))⟩
 t0:=Tryz.underlying0
 a0:=Tryz.isAgg0
 z0:=Tryz.sizeOf0
 v0:=Tryz.zeroValue0
 t3:=Tryz.underlying3
 a3:=Tryz.isAgg3
 z3:=Tryz.sizeOf3
 v3:=Tryz.zeroValue3
 t4:=Tryz.underlying4
 a4:=Tryz.isAgg4
 z4:=Tryz.sizeOf4
 v4:=Tryz.zeroValue4
 t5:=Tryz.underlying5
 a5:=Tryz.isAgg5
 z5:=Tryz.sizeOf5
 v5:=Tryz.zeroValue5
 t9:=Tryz.underlying9
 a9:=Tryz.isAgg9
 z9:=Tryz.sizeOf9
 v9:=Tryz.zeroValue9
 t22:=Tryz.underlying85
 a22:=Tryz.isAgg85
 z22:=Tryz.sizeOf85
 v22:=Tryz.zeroValue85
 a24:=Tryz.isAgg35
 z24:=Tryz.sizeOf35
 t25:=Tryz.underlying256
 a25:=Tryz.isAgg256
 z25:=Tryz.sizeOf256
 v25:=Tryz.zeroValue256
 t39:=Tryz.underlying183
 a39:=Tryz.isAgg183
 z39:=Tryz.sizeOf183
 v39:=Tryz.zeroValue183
 t45:=Tryz.underlying237
 a45:=Tryz.isAgg237
 z45:=Tryz.sizeOf237
 v45:=Tryz.zeroValue237
 t46:=Tryz.underlying238
 a46:=Tryz.isAgg238
 z46:=Tryz.sizeOf238
 v46:=Tryz.zeroValue238
 t50:=Tryz.underlying108
 a50:=Tryz.isAgg108
 z50:=Tryz.sizeOf108
 v50:=Tryz.zeroValue108
 t53:=Tryz.underlying34
 a53:=Tryz.isAgg34
 z53:=Tryz.sizeOf34
 v53:=Tryz.zeroValue34
 t55:=Tryz.underlying117
 a55:=Tryz.isAgg117
 z55:=Tryz.sizeOf117
 v55:=Tryz.zeroValue117
 t66:=Tryz.underlying281
 a66:=Tryz.isAgg281
 z66:=Tryz.sizeOf281
 v66:=Tryz.zeroValue281
 t70:=Tryz.underlying285
 a70:=Tryz.isAgg285
 z70:=Tryz.sizeOf285
 v70:=Tryz.zeroValue285
 t76:=Tryz.underlying303
 a76:=Tryz.isAgg303
 z76:=Tryz.sizeOf303
 v76:=Tryz.zeroValue303
 t77:=Tryz.underlying304
 a77:=Tryz.isAgg304
 z77:=Tryz.sizeOf304
 v77:=Tryz.zeroValue304 }
end Go.Proofs
end
