/- A part of the proof: LySort. -/
import Derived.Shelf.SlLaysF
import Derived.Test.YtnlcekpflogjkaaGreatDoorProg
set_option linter.all false
section
namespace Go.Proofs
open Go.Shelf
def Tryz.laysSort_ren:Go.Shelf.Ren:=⟨fun|6=>169|15=>153|14=>221|28=>212|29=>213|20=>244|21=>245|22=>246|23=>247|24=>248|25=>249|26=>250|27=>251|46=>270|47=>238|48=>239|49=>271|50=>272|57=>278|n=>n,fun|22=>38|24=>50|25=>224|3=>3|39=>208|0=>0|53=>49|55=>262|4=>4|46=>255|45=>254|50=>259|5=>5|9=>9|66=>281|70=>285|76=>312|77=>313|n=>n,fun|n=>n⟩
theorem Tryz.laysSort:Go.Proofs.SlLaysF.n6 Tryz.prog Tryz.laysSort_ren:={
 mixed:=by kernel_rfl
 f6:=⟨Tryz.f169.name,by decide,Tryz.func169.trans (congrArg some (by kernel_rfl))⟩
 f14:=⟨Tryz.f221.name,by decide,Tryz.func221.trans (congrArg some (by kernel_rfl))⟩
 f15:=Tryz.func153.trans (congrArg some (by kernel_rfl))
 f20:=⟨Tryz.f244.name,by decide,Tryz.func244.trans (congrArg some (by kernel_rfl))⟩
 f21:=⟨Tryz.f245.name,by decide,Tryz.func245.trans (congrArg some (by kernel_rfl))⟩
 f22:=⟨Tryz.f246.name,by decide,Tryz.func246.trans (congrArg some (by kernel_rfl))⟩
 f23:=⟨Tryz.f247.name,by decide,Tryz.func247.trans (congrArg some (by kernel_rfl))⟩
 f24:=⟨Tryz.f248.name,by decide,Tryz.func248.trans (congrArg some (by kernel_rfl))⟩
 f25:=⟨Tryz.f249.name,by decide,Tryz.func249.trans (congrArg some (by kernel_rfl))⟩
 f26:=⟨Tryz.f250.name,by decide,Tryz.func250.trans (congrArg some (by kernel_rfl))⟩
 f27:=⟨Tryz.f251.name,by decide,Tryz.func251.trans (congrArg some (by kernel_rfl))⟩
 f28:=Tryz.func212.trans (congrArg some (by kernel_rfl))
 f29:=Tryz.func213.trans (congrArg some (by kernel_rfl))
 f46:=⟨Tryz.f270.name,by decide,Tryz.func270.trans (congrArg some (by kernel_rfl))⟩
 f47:=Tryz.func238.trans (congrArg some (by kernel_rfl))
 f48:=Tryz.func239.trans (congrArg some (by kernel_rfl))
 f49:=⟨Tryz.f271.name,by decide,Tryz.func271.trans (congrArg some (by kernel_rfl))⟩
 f50:=⟨Tryz.f272.name,by decide,Tryz.func272.trans (congrArg some (by kernel_rfl))⟩
 f57:=⟨Tryz.f278.name,by decide,Tryz.func278.trans (congrArg some (by kernel_rfl))⟩
 t0:=Tryz.underlying0
 a0:=Tryz.isAgg0
 z0:=Tryz.sizeOf0
 v0:=Tryz.zeroValue0
 t3:=Tryz.underlying3
 a3:=Tryz.isAgg3
 z3:=Tryz.sizeOf3
 v3:=Tryz.zeroValue3
 t4:=Tryz.underlying4
 a4:=Tryz.isAgg4
 z4:=Tryz.sizeOf4
 v4:=Tryz.zeroValue4
 t5:=Tryz.underlying5
 a5:=Tryz.isAgg5
 z5:=Tryz.sizeOf5
 v5:=Tryz.zeroValue5
 t9:=Tryz.underlying9
 a9:=Tryz.isAgg9
 z9:=Tryz.sizeOf9
 v9:=Tryz.zeroValue9
 t22:=Tryz.underlying38
 a22:=Tryz.isAgg38
 z22:=Tryz.sizeOf38
 v22:=Tryz.zeroValue38
 a24:=Tryz.isAgg50
 z24:=Tryz.sizeOf50
 t25:=Tryz.underlying224
 a25:=Tryz.isAgg224
 z25:=Tryz.sizeOf224
 v25:=Tryz.zeroValue224
 t39:=Tryz.underlying208
 a39:=Tryz.isAgg208
 z39:=Tryz.sizeOf208
 v39:=Tryz.zeroValue208
 t45:=Tryz.underlying254
 a45:=Tryz.isAgg254
 z45:=Tryz.sizeOf254
 v45:=Tryz.zeroValue254
 t46:=Tryz.underlying255
 a46:=Tryz.isAgg255
 z46:=Tryz.sizeOf255
 v46:=Tryz.zeroValue255
 t50:=Tryz.underlying259
 a50:=Tryz.isAgg259
 z50:=Tryz.sizeOf259
 v50:=Tryz.zeroValue259
 t53:=Tryz.underlying49
 a53:=Tryz.isAgg49
 z53:=Tryz.sizeOf49
 v53:=Tryz.zeroValue49
 t55:=Tryz.underlying262
 a55:=Tryz.isAgg262
 z55:=Tryz.sizeOf262
 v55:=Tryz.zeroValue262
 t66:=Tryz.underlying281
 a66:=Tryz.isAgg281
 z66:=Tryz.sizeOf281
 v66:=Tryz.zeroValue281
 t70:=Tryz.underlying285
 a70:=Tryz.isAgg285
 z70:=Tryz.sizeOf285
 v70:=Tryz.zeroValue285
 t76:=Tryz.underlying312
 a76:=Tryz.isAgg312
 z76:=Tryz.sizeOf312
 v76:=Tryz.zeroValue312
 t77:=Tryz.underlying313
 a77:=Tryz.isAgg313
 z77:=Tryz.sizeOf313
 v77:=Tryz.zeroValue313 }
end Go.Proofs
end
