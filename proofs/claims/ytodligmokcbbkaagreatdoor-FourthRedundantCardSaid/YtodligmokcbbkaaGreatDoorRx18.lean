/- A part of the proof: LySort. -/
import Derived.Shelf.SlLaysF
import Derived.Test.YtodligmokcbbkaaGreatDoorProg
set_option linter.all false
section
namespace Go.Proofs
open Go.Shelf
def Tryz.laysSort_ren:Go.Shelf.Ren:=⟨fun | 6=>69 | 15=>89 | 14=>88 | 28=>103 | 29=>104 | 20=>95 | 21=>96 | 22=>97 | 23=>98 | 24=>99 | 25=>100 | 26=>101 | 27=>102 | 46=>107 | 47=>108 | 48=>109 | 49=>110 | 50=>111 | 57=>112 | n=>n,fun | 22=>40 | 24=>27 | 25=>107 | 3=>3 | 39=>116 | 0=>0 | 53=>26 | 55=>124 | 4=>4 | 46=>127 | 45=>126 | 50=>131 | 5=>5 | 9=>9 | 66=>134 | 70=>138 | 76=>140 | 77=>141 | n=>n,fun | n=>n⟩
theorem Tryz.laysSort:Go.Proofs.SlLaysF.n6 Tryz.prog Tryz.laysSort_ren:={
 mixed:=by kernel_rfl
 f6:=⟨Tryz.f69.name,by decide,Tryz.func69.trans (congrArg some (by kernel_rfl))⟩
 f14:=⟨Tryz.f88.name,by decide,Tryz.func88.trans (congrArg some (by kernel_rfl))⟩
 f15:=Tryz.func89.trans (congrArg some (by kernel_rfl))
 f20:=⟨Tryz.f95.name,by decide,Tryz.func95.trans (congrArg some (by kernel_rfl))⟩
 f21:=⟨Tryz.f96.name,by decide,Tryz.func96.trans (congrArg some (by kernel_rfl))⟩
 f22:=⟨Tryz.f97.name,by decide,Tryz.func97.trans (congrArg some (by kernel_rfl))⟩
 f23:=⟨Tryz.f98.name,by decide,Tryz.func98.trans (congrArg some (by kernel_rfl))⟩
 f24:=⟨Tryz.f99.name,by decide,Tryz.func99.trans (congrArg some (by kernel_rfl))⟩
 f25:=⟨Tryz.f100.name,by decide,Tryz.func100.trans (congrArg some (by kernel_rfl))⟩
 f26:=⟨Tryz.f101.name,by decide,Tryz.func101.trans (congrArg some (by kernel_rfl))⟩
 f27:=⟨Tryz.f102.name,by decide,Tryz.func102.trans (congrArg some (by kernel_rfl))⟩
 f28:=Tryz.func103.trans (congrArg some (by kernel_rfl))
 f29:=Tryz.func104.trans (congrArg some (by kernel_rfl))
 f46:=⟨Tryz.f107.name,by decide,Tryz.func107.trans (congrArg some (by kernel_rfl))⟩
 f47:=Tryz.func108.trans (congrArg some (by kernel_rfl))
 f48:=Tryz.func109.trans (congrArg some (by kernel_rfl))
 f49:=⟨Tryz.f110.name,by decide,Tryz.func110.trans (congrArg some (by kernel_rfl))⟩
 f50:=⟨Tryz.f111.name,by decide,Tryz.func111.trans (congrArg some (by kernel_rfl))⟩
 f57:=⟨Tryz.f112.name,by decide,Tryz.func112.trans (congrArg some (by kernel_rfl))⟩
 t0:=Tryz.underlying0
 a0:=Tryz.isAgg0
 z0:=Tryz.sizeOf0
 v0:=Tryz.zeroValue0
 t3:=Tryz.underlying3
 a3:=Tryz.isAgg3
 z3:=Tryz.sizeOf3
 v3:=Tryz.zeroValue3
 t4:=Tryz.underlying4
 a4:=Tryz.isAgg4
 z4:=Tryz.sizeOf4
 v4:=Tryz.zeroValue4
 t5:=Tryz.underlying5
 a5:=Tryz.isAgg5
 z5:=Tryz.sizeOf5
 v5:=Tryz.zeroValue5
 t9:=Tryz.underlying9
 a9:=Tryz.isAgg9
 z9:=Tryz.sizeOf9
 v9:=Tryz.zeroValue9
 t22:=Tryz.underlying40
 a22:=Tryz.isAgg40
 z22:=Tryz.sizeOf40
 v22:=Tryz.zeroValue40
 a24:=Tryz.isAgg27
 z24:=Tryz.sizeOf27
 t25:=Tryz.underlying107
 a25:=Tryz.isAgg107
 z25:=Tryz.sizeOf107
 v25:=Tryz.zeroValue107
 t39:=Tryz.underlying116
 a39:=Tryz.isAgg116
 z39:=Tryz.sizeOf116
 v39:=Tryz.zeroValue116
 t45:=Tryz.underlying126
 a45:=Tryz.isAgg126
 z45:=Tryz.sizeOf126
 v45:=Tryz.zeroValue126
 t46:=Tryz.underlying127
 a46:=Tryz.isAgg127
 z46:=Tryz.sizeOf127
 v46:=Tryz.zeroValue127
 t50:=Tryz.underlying131
 a50:=Tryz.isAgg131
 z50:=Tryz.sizeOf131
 v50:=Tryz.zeroValue131
 t53:=Tryz.underlying26
 a53:=Tryz.isAgg26
 z53:=Tryz.sizeOf26
 v53:=Tryz.zeroValue26
 t55:=Tryz.underlying124
 a55:=Tryz.isAgg124
 z55:=Tryz.sizeOf124
 v55:=Tryz.zeroValue124
 t66:=Tryz.underlying134
 a66:=Tryz.isAgg134
 z66:=Tryz.sizeOf134
 v66:=Tryz.zeroValue134
 t70:=Tryz.underlying138
 a70:=Tryz.isAgg138
 z70:=Tryz.sizeOf138
 v70:=Tryz.zeroValue138
 t76:=Tryz.underlying140
 a76:=Tryz.isAgg140
 z76:=Tryz.sizeOf140
 v76:=Tryz.zeroValue140
 t77:=Tryz.underlying141
 a77:=Tryz.isAgg141
 z77:=Tryz.sizeOf141
 v77:=Tryz.zeroValue141 }
end Go.Proofs
end
