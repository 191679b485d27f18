/- A part of the proof: LySort. -/
import Derived.Shelf.SlLaysF
import Derived.Test.YtaegkccfbmekbaaGreatProg
set_option linter.all false
section
namespace Go.Proofs
open Go.Shelf
def Tryz.laysSort_ren:Go.Shelf.Ren:=⟨fun | 6=>132 | 15=>108 | 14=>157 | 28=>144 | 29=>145 | 20=>170 | 21=>171 | 22=>172 | 23=>173 | 24=>174 | 25=>175 | 26=>176 | 27=>177 | 46=>180 | 47=>159 | 48=>160 | 49=>181 | 50=>182 | 57=>183 | n=>n,fun | 22=>66 | 24=>69 | 25=>124 | 3=>3 | 39=>150 | 0=>0 | 53=>68 | 55=>178 | 4=>4 | 46=>172 | 45=>171 | 50=>84 | 5=>5 | 9=>9 | 66=>188 | 70=>192 | 76=>203 | 77=>204 | n=>n,fun | n=>n⟩
theorem Tryz.laysSort:Go.Proofs.SlLaysF.n6 Tryz.prog Tryz.laysSort_ren:={
 mixed:=by kernel_rfl
 f6:=⟨Tryz.f132.name,by decide,Tryz.func132.trans (congrArg some (by kernel_rfl))⟩
 f14:=⟨Tryz.f157.name,by decide,Tryz.func157.trans (congrArg some (by kernel_rfl))⟩
 f15:=Tryz.func108.trans (congrArg some (by kernel_rfl))
 f20:=⟨Tryz.f170.name,by decide,Tryz.func170.trans (congrArg some (by kernel_rfl))⟩
 f21:=⟨Tryz.f171.name,by decide,Tryz.func171.trans (congrArg some (by kernel_rfl))⟩
 f22:=⟨Tryz.f172.name,by decide,Tryz.func172.trans (congrArg some (by kernel_rfl))⟩
 f23:=⟨Tryz.f173.name,by decide,Tryz.func173.trans (congrArg some (by kernel_rfl))⟩
 f24:=⟨Tryz.f174.name,by decide,Tryz.func174.trans (congrArg some (by kernel_rfl))⟩
 f25:=⟨Tryz.f175.name,by decide,Tryz.func175.trans (congrArg some (by kernel_rfl))⟩
 f26:=⟨Tryz.f176.name,by decide,Tryz.func176.trans (congrArg some (by kernel_rfl))⟩
 f27:=⟨Tryz.f177.name,by decide,Tryz.func177.trans (congrArg some (by kernel_rfl))⟩
 f28:=Tryz.func144.trans (congrArg some (by kernel_rfl))
 f29:=Tryz.func145.trans (congrArg some (by kernel_rfl))
 f46:=⟨Tryz.f180.name,by decide,Tryz.func180.trans (congrArg some (by kernel_rfl))⟩
 f47:=Tryz.func159.trans (congrArg some (by kernel_rfl))
 f48:=Tryz.func160.trans (congrArg some (by kernel_rfl))
 f49:=⟨Tryz.f181.name,by decide,Tryz.func181.trans (congrArg some (by kernel_rfl))⟩
 f50:=⟨Tryz.f182.name,by decide,Tryz.func182.trans (congrArg some (by kernel_rfl))⟩
 f57:=⟨Tryz.f183.name,by decide,Tryz.func183.trans (congrArg some (by kernel_rfl))⟩
 t0:=Tryz.underlying0
 a0:=Tryz.isAgg0
 z0:=Tryz.sizeOf0
 v0:=Tryz.zeroValue0
 t3:=Tryz.underlying3
 a3:=Tryz.isAgg3
 z3:=Tryz.sizeOf3
 v3:=Tryz.zeroValue3
 t4:=Tryz.underlying4
 a4:=Tryz.isAgg4
 z4:=Tryz.sizeOf4
 v4:=Tryz.zeroValue4
 t5:=Tryz.underlying5
 a5:=Tryz.isAgg5
 z5:=Tryz.sizeOf5
 v5:=Tryz.zeroValue5
 t9:=Tryz.underlying9
 a9:=Tryz.isAgg9
 z9:=Tryz.sizeOf9
 v9:=Tryz.zeroValue9
 t22:=Tryz.underlying66
 a22:=Tryz.isAgg66
 z22:=Tryz.sizeOf66
 v22:=Tryz.zeroValue66
 a24:=Tryz.isAgg69
 z24:=Tryz.sizeOf69
 t25:=Tryz.underlying124
 a25:=Tryz.isAgg124
 z25:=Tryz.sizeOf124
 v25:=Tryz.zeroValue124
 t39:=Tryz.underlying150
 a39:=Tryz.isAgg150
 z39:=Tryz.sizeOf150
 v39:=Tryz.zeroValue150
 t45:=Tryz.underlying171
 a45:=Tryz.isAgg171
 z45:=Tryz.sizeOf171
 v45:=Tryz.zeroValue171
 t46:=Tryz.underlying172
 a46:=Tryz.isAgg172
 z46:=Tryz.sizeOf172
 v46:=Tryz.zeroValue172
 t50:=Tryz.underlying84
 a50:=Tryz.isAgg84
 z50:=Tryz.sizeOf84
 v50:=Tryz.zeroValue84
 t53:=Tryz.underlying68
 a53:=Tryz.isAgg68
 z53:=Tryz.sizeOf68
 v53:=Tryz.zeroValue68
 t55:=Tryz.underlying178
 a55:=Tryz.isAgg178
 z55:=Tryz.sizeOf178
 v55:=Tryz.zeroValue178
 t66:=Tryz.underlying188
 a66:=Tryz.isAgg188
 z66:=Tryz.sizeOf188
 v66:=Tryz.zeroValue188
 t70:=Tryz.underlying192
 a70:=Tryz.isAgg192
 z70:=Tryz.sizeOf192
 v70:=Tryz.zeroValue192
 t76:=Tryz.underlying203
 a76:=Tryz.isAgg203
 z76:=Tryz.sizeOf203
 v76:=Tryz.zeroValue203
 t77:=Tryz.underlying204
 a77:=Tryz.isAgg204
 z77:=Tryz.sizeOf204
 v77:=Tryz.zeroValue204 }
end Go.Proofs
end
