/- A part of the proof: LyV. -/
import Derived.Shelf.SlLaysF0
import Derived.Test.YteklilhbjjofbaaGreatDoorProg
set_option linter.all false
section
namespace Go.Proofs
open Go.Shelf
def Tryz.laysSortV_ren:Go.Shelf.Ren:=⟨fun | 6=>62 | 15=>101 | 14=>100 | 28=>150 | 29=>151 | 20=>142 | 21=>143 | 22=>144 | 23=>145 | 24=>146 | 25=>147 | 26=>148 | 27=>149 | 46=>168 | 47=>169 | 48=>170 | 49=>171 | 50=>172 | 57=>184 | n=>n,fun | 22=>110 | 24=>114 | 25=>125 | 3=>3 | 39=>159 | 0=>0 | 53=>27 | 55=>201 | 4=>4 | 46=>193 | 45=>192 | 50=>197 | 5=>5 | 9=>9 | 66=>213 | 70=>217 | 76=>225 | 77=>226 | n=>n,fun | n=>n⟩
theorem Tryz.laysSortV:Go.Proofs.SlLaysF0.n6 Tryz.prog Tryz.laysSortV_ren:={
 mixed:=by kernel_rfl
 f6:=⟨Tryz.f62.name,by decide,Tryz.func62.trans (congrArg some (by kernel_rfl))⟩
 f14:=⟨Tryz.f100.name,by decide,Tryz.func100.trans (congrArg some (by kernel_rfl))⟩
 f15:=Tryz.func101.trans (congrArg some (by kernel_rfl))
 f20:=⟨Tryz.f142.name,by decide,Tryz.func142.trans (congrArg some (by kernel_rfl))⟩
 f21:=⟨Tryz.f143.name,by decide,Tryz.func143.trans (congrArg some (by kernel_rfl))⟩
 f22:=⟨Tryz.f144.name,by decide,Tryz.func144.trans (congrArg some (by kernel_rfl))⟩
 f23:=⟨Tryz.f145.name,by decide,Tryz.func145.trans (congrArg some (by kernel_rfl))⟩
 f24:=⟨Tryz.f146.name,by decide,Tryz.func146.trans (congrArg some (by kernel_rfl))⟩
 f25:=⟨Tryz.f147.name,by decide,Tryz.func147.trans (congrArg some (by kernel_rfl))⟩
 f26:=⟨Tryz.f148.name,by decide,Tryz.func148.trans (congrArg some (by kernel_rfl))⟩
 f27:=⟨Tryz.f149.name,by decide,Tryz.func149.trans (congrArg some (by kernel_rfl))⟩
 f28:=Tryz.func150.trans (congrArg some (by kernel_rfl))
 f29:=Tryz.func151.trans (congrArg some (by kernel_rfl))
 f46:=⟨Tryz.f168.name,by decide,Tryz.func168.trans (congrArg some (by kernel_rfl))⟩
 f47:=Tryz.func169.trans (congrArg some (by kernel_rfl))
 f48:=Tryz.func170.trans (congrArg some (by kernel_rfl))
 f49:=⟨Tryz.f171.name,by decide,Tryz.func171.trans (congrArg some (by kernel_rfl))⟩
 f50:=⟨Tryz.f172.name,by decide,Tryz.func172.trans (congrArg some (by kernel_rfl))⟩
 f57:=⟨Tryz.f184.name,by decide,Tryz.func184.trans (congrArg some (by kernel_rfl))⟩
 t0:=Tryz.underlying0
 a0:=Tryz.isAgg0
 z0:=Tryz.sizeOf0
 v0:=Tryz.zeroValue0
 t3:=Tryz.underlying3
 a3:=Tryz.isAgg3
 z3:=Tryz.sizeOf3
 v3:=Tryz.zeroValue3
 t4:=Tryz.underlying4
 a4:=Tryz.isAgg4
 z4:=Tryz.sizeOf4
 v4:=Tryz.zeroValue4
 t5:=Tryz.underlying5
 a5:=Tryz.isAgg5
 z5:=Tryz.sizeOf5
 v5:=Tryz.zeroValue5
 t9:=Tryz.underlying9
 a9:=Tryz.isAgg9
 z9:=Tryz.sizeOf9
 v9:=Tryz.zeroValue9
 t22:=Tryz.underlying110
 a22:=Tryz.isAgg110
 z22:=Tryz.sizeOf110
 v22:=Tryz.zeroValue110
 t25:=Tryz.underlying125
 a25:=Tryz.isAgg125
 z25:=Tryz.sizeOf125
 v25:=Tryz.zeroValue125
 t39:=Tryz.underlying159
 a39:=Tryz.isAgg159
 z39:=Tryz.sizeOf159
 v39:=Tryz.zeroValue159
 t45:=Tryz.underlying192
 a45:=Tryz.isAgg192
 z45:=Tryz.sizeOf192
 v45:=Tryz.zeroValue192
 t46:=Tryz.underlying193
 a46:=Tryz.isAgg193
 z46:=Tryz.sizeOf193
 v46:=Tryz.zeroValue193
 t50:=Tryz.underlying197
 a50:=Tryz.isAgg197
 z50:=Tryz.sizeOf197
 v50:=Tryz.zeroValue197
 t53:=Tryz.underlying27
 a53:=Tryz.isAgg27
 z53:=Tryz.sizeOf27
 v53:=Tryz.zeroValue27
 t55:=Tryz.underlying201
 a55:=Tryz.isAgg201
 z55:=Tryz.sizeOf201
 v55:=Tryz.zeroValue201
 t66:=Tryz.underlying213
 a66:=Tryz.isAgg213
 z66:=Tryz.sizeOf213
 v66:=Tryz.zeroValue213
 t70:=Tryz.underlying217
 a70:=Tryz.isAgg217
 z70:=Tryz.sizeOf217
 v70:=Tryz.zeroValue217
 t76:=Tryz.underlying225
 a76:=Tryz.isAgg225
 z76:=Tryz.sizeOf225
 v76:=Tryz.zeroValue225
 t77:=Tryz.underlying226
 a77:=Tryz.isAgg226
 z77:=Tryz.sizeOf226
 v77:=Tryz.zeroValue226 }
end Go.Proofs
end
