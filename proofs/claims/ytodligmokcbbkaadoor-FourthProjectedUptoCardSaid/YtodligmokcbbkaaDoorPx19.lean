/- A part of the proof: LySort. -/
import Derived.Shelf.SlLaysF
import Derived.Test.YtodligmokcbbkaaDoorProg
set_option linter.all false
section
namespace Go.Proofs
open Go.Shelf
def Tryd.laysSort_ren:Go.Shelf.Ren:=⟨fun | 6=>52 | 15=>65 | 14=>64 | 28=>80 | 29=>81 | 20=>72 | 21=>73 | 22=>74 | 23=>75 | 24=>76 | 25=>77 | 26=>78 | 27=>79 | 46=>84 | 47=>85 | 48=>86 | 49=>87 | 50=>88 | 57=>89 | n=>n,fun | 22=>58 | 24=>40 | 25=>103 | 3=>3 | 39=>113 | 0=>0 | 53=>39 | 55=>129 | 4=>4 | 46=>122 | 45=>121 | 50=>126 | 5=>5 | 9=>9 | 66=>132 | 70=>136 | 76=>138 | 77=>139 | n=>n,fun | n=>n⟩
theorem Tryd.laysSort:Go.Proofs.SlLaysF.n6 Tryd.prog Tryd.laysSort_ren:={
 mixed:=by kernel_rfl
 f6:=⟨Tryd.f52.name,by decide,Tryd.func52.trans (congrArg some (by kernel_rfl))⟩
 f14:=⟨Tryd.f64.name,by decide,Tryd.func64.trans (congrArg some (by kernel_rfl))⟩
 f15:=Tryd.func65.trans (congrArg some (by kernel_rfl))
 f20:=⟨Tryd.f72.name,by decide,Tryd.func72.trans (congrArg some (by kernel_rfl))⟩
 f21:=⟨Tryd.f73.name,by decide,Tryd.func73.trans (congrArg some (by kernel_rfl))⟩
 f22:=⟨Tryd.f74.name,by decide,Tryd.func74.trans (congrArg some (by kernel_rfl))⟩
 f23:=⟨Tryd.f75.name,by decide,Tryd.func75.trans (congrArg some (by kernel_rfl))⟩
 f24:=⟨Tryd.f76.name,by decide,Tryd.func76.trans (congrArg some (by kernel_rfl))⟩
 f25:=⟨Tryd.f77.name,by decide,Tryd.func77.trans (congrArg some (by kernel_rfl))⟩
 f26:=⟨Tryd.f78.name,by decide,Tryd.func78.trans (congrArg some (by kernel_rfl))⟩
 f27:=⟨Tryd.f79.name,by decide,Tryd.func79.trans (congrArg some (by kernel_rfl))⟩
 f28:=Tryd.func80.trans (congrArg some (by kernel_rfl))
 f29:=Tryd.func81.trans (congrArg some (by kernel_rfl))
 f46:=⟨Tryd.f84.name,by decide,Tryd.func84.trans (congrArg some (by kernel_rfl))⟩
 f47:=Tryd.func85.trans (congrArg some (by kernel_rfl))
 f48:=Tryd.func86.trans (congrArg some (by kernel_rfl))
 f49:=⟨Tryd.f87.name,by decide,Tryd.func87.trans (congrArg some (by kernel_rfl))⟩
 f50:=⟨Tryd.f88.name,by decide,Tryd.func88.trans (congrArg some (by kernel_rfl))⟩
 f57:=⟨Tryd.f89.name,by decide,Tryd.func89.trans (congrArg some (by kernel_rfl))⟩
 t0:=Tryd.underlying0
 a0:=Tryd.isAgg0
 z0:=Tryd.sizeOf0
 v0:=Tryd.zeroValue0
 t3:=Tryd.underlying3
 a3:=Tryd.isAgg3
 z3:=Tryd.sizeOf3
 v3:=Tryd.zeroValue3
 t4:=Tryd.underlying4
 a4:=Tryd.isAgg4
 z4:=Tryd.sizeOf4
 v4:=Tryd.zeroValue4
 t5:=Tryd.underlying5
 a5:=Tryd.isAgg5
 z5:=Tryd.sizeOf5
 v5:=Tryd.zeroValue5
 t9:=Tryd.underlying9
 a9:=Tryd.isAgg9
 z9:=Tryd.sizeOf9
 v9:=Tryd.zeroValue9
 t22:=Tryd.underlying58
 a22:=Tryd.isAgg58
 z22:=Tryd.sizeOf58
 v22:=Tryd.zeroValue58
 a24:=Tryd.isAgg40
 z24:=Tryd.sizeOf40
 t25:=Tryd.underlying103
 a25:=Tryd.isAgg103
 z25:=Tryd.sizeOf103
 v25:=Tryd.zeroValue103
 t39:=Tryd.underlying113
 a39:=Tryd.isAgg113
 z39:=Tryd.sizeOf113
 v39:=Tryd.zeroValue113
 t45:=Tryd.underlying121
 a45:=Tryd.isAgg121
 z45:=Tryd.sizeOf121
 v45:=Tryd.zeroValue121
 t46:=Tryd.underlying122
 a46:=Tryd.isAgg122
 z46:=Tryd.sizeOf122
 v46:=Tryd.zeroValue122
 t50:=Tryd.underlying126
 a50:=Tryd.isAgg126
 z50:=Tryd.sizeOf126
 v50:=Tryd.zeroValue126
 t53:=Tryd.underlying39
 a53:=Tryd.isAgg39
 z53:=Tryd.sizeOf39
 v53:=Tryd.zeroValue39
 t55:=Tryd.underlying129
 a55:=Tryd.isAgg129
 z55:=Tryd.sizeOf129
 v55:=Tryd.zeroValue129
 t66:=Tryd.underlying132
 a66:=Tryd.isAgg132
 z66:=Tryd.sizeOf132
 v66:=Tryd.zeroValue132
 t70:=Tryd.underlying136
 a70:=Tryd.isAgg136
 z70:=Tryd.sizeOf136
 v70:=Tryd.zeroValue136
 t76:=Tryd.underlying138
 a76:=Tryd.isAgg138
 z76:=Tryd.sizeOf138
 v76:=Tryd.zeroValue138
 t77:=Tryd.underlying139
 a77:=Tryd.isAgg139
 z77:=Tryd.sizeOf139
 v77:=Tryd.zeroValue139 }
end Go.Proofs
end
