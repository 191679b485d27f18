/- A part of the proof: LySortZ. -/
import Derived.Shelf.SlLaysF
import Derived.Test.YtnlcekpflogjkaaGreatDoorProg
set_option linter.all false
section
namespace Go.Proofs
open Go.Shelf
def Tryz.laysSort_renZ:Go.Shelf.Ren:=⟨fun|6=>197|15=>153|14=>235|28=>212|29=>213|20=>261|21=>262|22=>263|23=>264|24=>265|25=>266|26=>267|27=>268|46=>275|47=>238|48=>239|49=>276|50=>277|57=>280|n=>n,fun|22=>141|24=>124|25=>250|3=>3|39=>208|0=>0|53=>49|55=>262|4=>4|46=>255|45=>254|50=>259|5=>5|9=>9|66=>281|70=>285|76=>312|77=>313|n=>n,fun|n=>n⟩
theorem Tryz.laysSortZ:Go.Proofs.SlLaysF.n6 Tryz.prog Tryz.laysSort_renZ:={
 mixed:=by kernel_rfl
 f6:=⟨Tryz.f197.name,by decide,Tryz.func197.trans (congrArg some (by kernel_rfl))⟩
 f14:=⟨Tryz.f235.name,by decide,Tryz.func235.trans (congrArg some (by kernel_rfl))⟩
 f15:=Tryz.func153.trans (congrArg some (by kernel_rfl))
 f20:=⟨Tryz.f261.name,by decide,Tryz.func261.trans (congrArg some (by kernel_rfl))⟩
 f21:=⟨Tryz.f262.name,by decide,Tryz.func262.trans (congrArg some (by kernel_rfl))⟩
 f22:=⟨Tryz.f263.name,by decide,Tryz.func263.trans (congrArg some (by kernel_rfl))⟩
 f23:=⟨Tryz.f264.name,by decide,Tryz.func264.trans (congrArg some (by kernel_rfl))⟩
 f24:=⟨Tryz.f265.name,by decide,Tryz.func265.trans (congrArg some (by kernel_rfl))⟩
 f25:=⟨Tryz.f266.name,by decide,Tryz.func266.trans (congrArg some (by kernel_rfl))⟩
 f26:=⟨Tryz.f267.name,by decide,Tryz.func267.trans (congrArg some (by kernel_rfl))⟩
 f27:=⟨Tryz.f268.name,by decide,Tryz.func268.trans (congrArg some (by kernel_rfl))⟩
 f28:=Tryz.func212.trans (congrArg some (by kernel_rfl))
 f29:=Tryz.func213.trans (congrArg some (by kernel_rfl))
 f46:=⟨Tryz.f275.name,by decide,Tryz.func275.trans (congrArg some (by kernel_rfl))⟩
 f47:=Tryz.func238.trans (congrArg some (by kernel_rfl))
 f48:=Tryz.func239.trans (congrArg some (by kernel_rfl))
 f49:=⟨Tryz.f276.name,by decide,Tryz.func276.trans (congrArg some (by kernel_rfl))⟩
 f50:=⟨Tryz.f277.name,by decide,Tryz.func277.trans (congrArg some (by kernel_rfl))⟩
 f57:=⟨Tryz.f280.name,by decide,Tryz.func280.trans (congrArg some (by kernel_rfl))⟩
 t0:=Tryz.underlying0
 a0:=Tryz.isAgg0
 z0:=Tryz.sizeOf0
 v0:=Tryz.zeroValue0
 t3:=Tryz.underlying3
 a3:=Tryz.isAgg3
 z3:=Tryz.sizeOf3
 v3:=Tryz.zeroValue3
 t4:=Tryz.underlying4
 a4:=Tryz.isAgg4
 z4:=Tryz.sizeOf4
 v4:=Tryz.zeroValue4
 t5:=Tryz.underlying5
 a5:=Tryz.isAgg5
 z5:=Tryz.sizeOf5
 v5:=Tryz.zeroValue5
 t9:=Tryz.underlying9
 a9:=Tryz.isAgg9
 z9:=Tryz.sizeOf9
 v9:=Tryz.zeroValue9
 t22:=Tryz.underlying141
 a22:=Tryz.isAgg141
 z22:=Tryz.sizeOf141
 v22:=Tryz.zeroValue141
 a24:=Tryz.isAgg124
 z24:=Tryz.sizeOf124
 t25:=Tryz.underlying250
 a25:=Tryz.isAgg250
 z25:=Tryz.sizeOf250
 v25:=Tryz.zeroValue250
 t39:=Tryz.underlying208
 a39:=Tryz.isAgg208
 z39:=Tryz.sizeOf208
 v39:=Tryz.zeroValue208
 t45:=Tryz.underlying254
 a45:=Tryz.isAgg254
 z45:=Tryz.sizeOf254
 v45:=Tryz.zeroValue254
 t46:=Tryz.underlying255
 a46:=Tryz.isAgg255
 z46:=Tryz.sizeOf255
 v46:=Tryz.zeroValue255
 t50:=Tryz.underlying259
 a50:=Tryz.isAgg259
 z50:=Tryz.sizeOf259
 v50:=Tryz.zeroValue259
 t53:=Tryz.underlying49
 a53:=Tryz.isAgg49
 z53:=Tryz.sizeOf49
 v53:=Tryz.zeroValue49
 t55:=Tryz.underlying262
 a55:=Tryz.isAgg262
 z55:=Tryz.sizeOf262
 v55:=Tryz.zeroValue262
 t66:=Tryz.underlying281
 a66:=Tryz.isAgg281
 z66:=Tryz.sizeOf281
 v66:=Tryz.zeroValue281
 t70:=Tryz.underlying285
 a70:=Tryz.isAgg285
 z70:=Tryz.sizeOf285
 v70:=Tryz.zeroValue285
 t76:=Tryz.underlying312
 a76:=Tryz.isAgg312
 z76:=Tryz.sizeOf312
 v76:=Tryz.zeroValue312
 t77:=Tryz.underlying313
 a77:=Tryz.isAgg313
 z77:=Tryz.sizeOf313
 v77:=Tryz.zeroValue313 }
end Go.Proofs
end
