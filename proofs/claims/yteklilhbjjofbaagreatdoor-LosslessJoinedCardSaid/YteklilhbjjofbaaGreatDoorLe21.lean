/- A part of the proof: LySortZ. -/
import Derived.Shelf.SlLaysF
import Derived.Test.YteklilhbjjofbaaGreatDoorProg
set_option linter.all false
section
namespace Go.Proofs
open Go.Shelf
def Tryz.laysSort_renZ:Go.Shelf.Ren:=⟨fun | 6=>135 | 15=>101 | 14=>166 | 28=>150 | 29=>151 | 20=>176 | 21=>177 | 22=>178 | 23=>179 | 24=>180 | 25=>181 | 26=>182 | 27=>183 | 46=>185 | 47=>169 | 48=>170 | 49=>186 | 50=>187 | 57=>188 | n=>n,fun | 22=>91 | 24=>97 | 25=>185 | 3=>3 | 39=>159 | 0=>0 | 53=>27 | 55=>201 | 4=>4 | 46=>193 | 45=>192 | 50=>197 | 5=>5 | 9=>9 | 66=>213 | 70=>217 | 76=>225 | 77=>226 | n=>n,fun | n=>n⟩
theorem Tryz.laysSortZ:Go.Proofs.SlLaysF.n6 Tryz.prog Tryz.laysSort_renZ:={
 mixed:=by kernel_rfl
 f6:=⟨Tryz.f135.name,by decide,Tryz.func135.trans (congrArg some (by kernel_rfl))⟩
 f14:=⟨Tryz.f166.name,by decide,Tryz.func166.trans (congrArg some (by kernel_rfl))⟩
 f15:=Tryz.func101.trans (congrArg some (by kernel_rfl))
 f20:=⟨Tryz.f176.name,by decide,Tryz.func176.trans (congrArg some (by kernel_rfl))⟩
 f21:=⟨Tryz.f177.name,by decide,Tryz.func177.trans (congrArg some (by kernel_rfl))⟩
 f22:=⟨Tryz.f178.name,by decide,Tryz.func178.trans (congrArg some (by kernel_rfl))⟩
 f23:=⟨Tryz.f179.name,by decide,Tryz.func179.trans (congrArg some (by kernel_rfl))⟩
 f24:=⟨Tryz.f180.name,by decide,Tryz.func180.trans (congrArg some (by kernel_rfl))⟩
 f25:=⟨Tryz.f181.name,by decide,Tryz.func181.trans (congrArg some (by kernel_rfl))⟩
 f26:=⟨Tryz.f182.name,by decide,Tryz.func182.trans (congrArg some (by kernel_rfl))⟩
 f27:=⟨Tryz.f183.name,by decide,Tryz.func183.trans (congrArg some (by kernel_rfl))⟩
 f28:=Tryz.func150.trans (congrArg some (by kernel_rfl))
 f29:=Tryz.func151.trans (congrArg some (by kernel_rfl))
 f46:=⟨Tryz.f185.name,by decide,Tryz.func185.trans (congrArg some (by kernel_rfl))⟩
 f47:=Tryz.func169.trans (congrArg some (by kernel_rfl))
 f48:=Tryz.func170.trans (congrArg some (by kernel_rfl))
 f49:=⟨Tryz.f186.name,by decide,Tryz.func186.trans (congrArg some (by kernel_rfl))⟩
 f50:=⟨Tryz.f187.name,by decide,Tryz.func187.trans (congrArg some (by kernel_rfl))⟩
 f57:=⟨Tryz.f188.name,by decide,Tryz.func188.trans (congrArg some (by kernel_rfl))⟩
 t0:=Tryz.underlying0
 a0:=Tryz.isAgg0
 z0:=Tryz.sizeOf0
 v0:=Tryz.zeroValue0
 t3:=Tryz.underlying3
 a3:=Tryz.isAgg3
 z3:=Tryz.sizeOf3
 v3:=Tryz.zeroValue3
 t4:=Tryz.underlying4
 a4:=Tryz.isAgg4
 z4:=Tryz.sizeOf4
 v4:=Tryz.zeroValue4
 t5:=Tryz.underlying5
 a5:=Tryz.isAgg5
 z5:=Tryz.sizeOf5
 v5:=Tryz.zeroValue5
 t9:=Tryz.underlying9
 a9:=Tryz.isAgg9
 z9:=Tryz.sizeOf9
 v9:=Tryz.zeroValue9
 t22:=Tryz.underlying91
 a22:=Tryz.isAgg91
 z22:=Tryz.sizeOf91
 v22:=Tryz.zeroValue91
 a24:=Tryz.isAgg97
 z24:=Tryz.sizeOf97
 t25:=Tryz.underlying185
 a25:=Tryz.isAgg185
 z25:=Tryz.sizeOf185
 v25:=Tryz.zeroValue185
 t39:=Tryz.underlying159
 a39:=Tryz.isAgg159
 z39:=Tryz.sizeOf159
 v39:=Tryz.zeroValue159
 t45:=Tryz.underlying192
 a45:=Tryz.isAgg192
 z45:=Tryz.sizeOf192
 v45:=Tryz.zeroValue192
 t46:=Tryz.underlying193
 a46:=Tryz.isAgg193
 z46:=Tryz.sizeOf193
 v46:=Tryz.zeroValue193
 t50:=Tryz.underlying197
 a50:=Tryz.isAgg197
 z50:=Tryz.sizeOf197
 v50:=Tryz.zeroValue197
 t53:=Tryz.underlying27
 a53:=Tryz.isAgg27
 z53:=Tryz.sizeOf27
 v53:=Tryz.zeroValue27
 t55:=Tryz.underlying201
 a55:=Tryz.isAgg201
 z55:=Tryz.sizeOf201
 v55:=Tryz.zeroValue201
 t66:=Tryz.underlying213
 a66:=Tryz.isAgg213
 z66:=Tryz.sizeOf213
 v66:=Tryz.zeroValue213
 t70:=Tryz.underlying217
 a70:=Tryz.isAgg217
 z70:=Tryz.sizeOf217
 v70:=Tryz.zeroValue217
 t76:=Tryz.underlying225
 a76:=Tryz.isAgg225
 z76:=Tryz.sizeOf225
 v76:=Tryz.zeroValue225
 t77:=Tryz.underlying226
 a77:=Tryz.isAgg226
 z77:=Tryz.sizeOf226
 v77:=Tryz.zeroValue226 }
end Go.Proofs
end
