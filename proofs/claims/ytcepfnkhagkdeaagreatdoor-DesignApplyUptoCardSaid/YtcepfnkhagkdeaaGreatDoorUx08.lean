/- A part of the proof: LySort. -/
import Derived.Shelf.SlLaysF
import Derived.Test.YtcepfnkhagkdeaaGreatDoorProg
set_option linter.all false
open Go.Proofs.Tryz
section
namespace Go.Proofs
open Go.Shelf
def Tryz.laysSort_ren:Go.Shelf.Ren:=⟨λ|6=>208|15=>81|14=>239|28=>136|29=>137|20=>257|21=>258|22=>259|23=>260|24=>261|25=>262|26=>263|27=>264|46=>272|47=>180|48=>181|49=>273|50=>274|57=>283|n=>n,λ|22=>37|24=>48|25=>251|3=>3|39=>144|0=>0|53=>47|55=>200|4=>4|46=>192|45=>191|50=>197|5=>5|9=>9|66=>233|70=>237|76=>261|77=>262|n=>n,λ|n=>n⟩
theorem Tryz.laysSort:Go.Proofs.SlLaysF.n6 Tryz.prog Tryz.laysSort_ren:={
 mixed:=by kernel_rfl
 f6:=⟨Tryz.f208.name,by decide,func208.trans (congrArg some (by kernel_rfl))⟩
 f14:=⟨Tryz.f239.name,by decide,func239.trans (congrArg some (by kernel_rfl))⟩
 f15:=func81.trans (congrArg some (by kernel_rfl))
 f20:=⟨Tryz.f257.name,by decide,func257.trans (congrArg some (by kernel_rfl))⟩
 f21:=⟨Tryz.f258.name,by decide,func258.trans (congrArg some (by kernel_rfl))⟩
 f22:=⟨Tryz.f259.name,by decide,func259.trans (congrArg some (by kernel_rfl))⟩
 f23:=⟨Tryz.f260.name,by decide,func260.trans (congrArg some (by kernel_rfl))⟩
 f24:=⟨Tryz.f261.name,by decide,func261.trans (congrArg some (by kernel_rfl))⟩
 f25:=⟨Tryz.f262.name,by decide,func262.trans (congrArg some (by kernel_rfl))⟩
 f26:=⟨Tryz.f263.name,by decide,func263.trans (congrArg some (by kernel_rfl))⟩
 f27:=⟨Tryz.f264.name,by decide,func264.trans (congrArg some (by kernel_rfl))⟩
 f28:=func136.trans (congrArg some (by kernel_rfl))
 f29:=func137.trans (congrArg some (by kernel_rfl))
 f46:=⟨Tryz.f272.name,by decide,func272.trans (congrArg some (by kernel_rfl))⟩
 f47:=func180.trans (congrArg some (by kernel_rfl))
 f48:=func181.trans (congrArg some (by kernel_rfl))
 f49:=⟨Tryz.f273.name,by decide,func273.trans (congrArg some (by kernel_rfl))⟩
 f50:=⟨Tryz.f274.name,by decide,func274.trans (congrArg some (by kernel_rfl))⟩
 f57:=⟨Tryz.f283.name,by decide,func283.trans (congrArg some (by kernel_rfl))⟩
 t0:=underlying0
 a0:=isAgg0
 z0:=sizeOf0
 v0:=zeroValue0
 t3:=underlying3
 a3:=isAgg3
 z3:=sizeOf3
 v3:=zeroValue3
 t4:=underlying4
 a4:=isAgg4
 z4:=sizeOf4
 v4:=zeroValue4
 t5:=underlying5
 a5:=isAgg5
 z5:=sizeOf5
 v5:=zeroValue5
 t9:=underlying9
 a9:=isAgg9
 z9:=sizeOf9
 v9:=zeroValue9
 t22:=underlying37
 a22:=isAgg37
 z22:=sizeOf37
 v22:=zeroValue37
 a24:=isAgg48
 z24:=sizeOf48
 t25:=underlying251
 a25:=isAgg251
 z25:=sizeOf251
 v25:=zeroValue251
 t39:=underlying144
 a39:=isAgg144
 z39:=sizeOf144
 v39:=zeroValue144
 t45:=underlying191
 a45:=isAgg191
 z45:=sizeOf191
 v45:=zeroValue191
 t46:=underlying192
 a46:=isAgg192
 z46:=sizeOf192
 v46:=zeroValue192
 t50:=underlying197
 a50:=isAgg197
 z50:=sizeOf197
 v50:=zeroValue197
 t53:=underlying47
 a53:=isAgg47
 z53:=sizeOf47
 v53:=zeroValue47
 t55:=underlying200
 a55:=isAgg200
 z55:=sizeOf200
 v55:=zeroValue200
 t66:=underlying233
 a66:=isAgg233
 z66:=sizeOf233
 v66:=zeroValue233
 t70:=underlying237
 a70:=isAgg237
 z70:=sizeOf237
 v70:=zeroValue237
 t76:=underlying261
 a76:=isAgg261
 z76:=sizeOf261
 v76:=zeroValue261
 t77:=underlying262
 a77:=isAgg262
 z77:=sizeOf262
 v77:=zeroValue262 }
end Go.Proofs
end
