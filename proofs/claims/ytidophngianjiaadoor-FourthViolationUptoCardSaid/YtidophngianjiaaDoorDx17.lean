/- A part of the proof: LySort. -/
import Derived.Shelf.SlLaysF
import Derived.Test.YtidophngianjiaaDoorProg
set_option linter.all false
section
namespace Go.Proofs
open Go.Shelf
def Tryd.laysSort_ren:Go.Shelf.Ren:=⟨fun | 6=>38 | 15=>56 | 14=>55 | 28=>78 | 29=>79 | 20=>70 | 21=>71 | 22=>72 | 23=>73 | 24=>74 | 25=>75 | 26=>76 | 27=>77 | 46=>84 | 47=>85 | 48=>86 | 49=>87 | 50=>88 | 57=>89 | n=>n,fun | 22=>36 | 24=>34 | 25=>76 | 3=>3 | 39=>93 | 0=>0 | 53=>33 | 55=>84 | 4=>4 | 46=>104 | 45=>103 | 50=>108 | 5=>5 | 9=>9 | 66=>116 | 70=>120 | 76=>122 | 77=>123 | n=>n,fun | n=>n⟩
theorem Tryd.laysSort:Go.Proofs.SlLaysF.n6 Tryd.prog Tryd.laysSort_ren:={
 mixed:=by kernel_rfl
 f6:=⟨Tryd.f38.name,by decide,Tryd.func38.trans (congrArg some (by kernel_rfl))⟩
 f14:=⟨Tryd.f55.name,by decide,Tryd.func55.trans (congrArg some (by kernel_rfl))⟩
 f15:=Tryd.func56.trans (congrArg some (by kernel_rfl))
 f20:=⟨Tryd.f70.name,by decide,Tryd.func70.trans (congrArg some (by kernel_rfl))⟩
 f21:=⟨Tryd.f71.name,by decide,Tryd.func71.trans (congrArg some (by kernel_rfl))⟩
 f22:=⟨Tryd.f72.name,by decide,Tryd.func72.trans (congrArg some (by kernel_rfl))⟩
 f23:=⟨Tryd.f73.name,by decide,Tryd.func73.trans (congrArg some (by kernel_rfl))⟩
 f24:=⟨Tryd.f74.name,by decide,Tryd.func74.trans (congrArg some (by kernel_rfl))⟩
 f25:=⟨Tryd.f75.name,by decide,Tryd.func75.trans (congrArg some (by kernel_rfl))⟩
 f26:=⟨Tryd.f76.name,by decide,Tryd.func76.trans (congrArg some (by kernel_rfl))⟩
 f27:=⟨Tryd.f77.name,by decide,Tryd.func77.trans (congrArg some (by kernel_rfl))⟩
 f28:=Tryd.func78.trans (congrArg some (by kernel_rfl))
 f29:=Tryd.func79.trans (congrArg some (by kernel_rfl))
 f46:=⟨Tryd.f84.name,by decide,Tryd.func84.trans (congrArg some (by kernel_rfl))⟩
 f47:=Tryd.func85.trans (congrArg some (by kernel_rfl))
 f48:=Tryd.func86.trans (congrArg some (by kernel_rfl))
 f49:=⟨Tryd.f87.name,by decide,Tryd.func87.trans (congrArg some (by kernel_rfl))⟩
 f50:=⟨Tryd.f88.name,by decide,Tryd.func88.trans (congrArg some (by kernel_rfl))⟩
 f57:=⟨Tryd.f89.name,by decide,Tryd.func89.trans (congrArg some (by kernel_rfl))⟩
 t0:=Tryd.underlying0
 a0:=Tryd.isAgg0
 z0:=Tryd.sizeOf0
 v0:=Tryd.zeroValue0
 t3:=Tryd.underlying3
 a3:=Tryd.isAgg3
 z3:=Tryd.sizeOf3
 v3:=Tryd.zeroValue3
 t4:=Tryd.underlying4
 a4:=Tryd.isAgg4
 z4:=Tryd.sizeOf4
 v4:=Tryd.zeroValue4
 t5:=Tryd.underlying5
 a5:=Tryd.isAgg5
 z5:=Tryd.sizeOf5
 v5:=Tryd.zeroValue5
 t9:=Tryd.underlying9
 a9:=Tryd.isAgg9
 z9:=Tryd.sizeOf9
 v9:=Tryd.zeroValue9
 t22:=Tryd.underlying36
 a22:=Tryd.isAgg36
 z22:=Tryd.sizeOf36
 v22:=Tryd.zeroValue36
 a24:=Tryd.isAgg34
 z24:=Tryd.sizeOf34
 t25:=Tryd.underlying76
 a25:=Tryd.isAgg76
 z25:=Tryd.sizeOf76
 v25:=Tryd.zeroValue76
 t39:=Tryd.underlying93
 a39:=Tryd.isAgg93
 z39:=Tryd.sizeOf93
 v39:=Tryd.zeroValue93
 t45:=Tryd.underlying103
 a45:=Tryd.isAgg103
 z45:=Tryd.sizeOf103
 v45:=Tryd.zeroValue103
 t46:=Tryd.underlying104
 a46:=Tryd.isAgg104
 z46:=Tryd.sizeOf104
 v46:=Tryd.zeroValue104
 t50:=Tryd.underlying108
 a50:=Tryd.isAgg108
 z50:=Tryd.sizeOf108
 v50:=Tryd.zeroValue108
 t53:=Tryd.underlying33
 a53:=Tryd.isAgg33
 z53:=Tryd.sizeOf33
 v53:=Tryd.zeroValue33
 t55:=Tryd.underlying84
 a55:=Tryd.isAgg84
 z55:=Tryd.sizeOf84
 v55:=Tryd.zeroValue84
 t66:=Tryd.underlying116
 a66:=Tryd.isAgg116
 z66:=Tryd.sizeOf116
 v66:=Tryd.zeroValue116
 t70:=Tryd.underlying120
 a70:=Tryd.isAgg120
 z70:=Tryd.sizeOf120
 v70:=Tryd.zeroValue120
 t76:=Tryd.underlying122
 a76:=Tryd.isAgg122
 z76:=Tryd.sizeOf122
 v76:=Tryd.zeroValue122
 t77:=Tryd.underlying123
 a77:=Tryd.isAgg123
 z77:=Tryd.sizeOf123
 v77:=Tryd.zeroValue123 }
end Go.Proofs
end
