/- A part of the proof: LyCS. -/
import Derived.Shelf.Small.Strs
import Derived.Test.YtmoggbnlhllhaaaGreatDoorProg
set_option linter.all false
section
namespace Go.Proofs
open Go.Shelf
def Tryz.laysCS_ren:Go.Shelf.Ren:=⟨fun|213=>251|265=>262|n=>n,fun n=>n,fun n=>n⟩
theorem Tryz.laysCS:Go.Proofs.Lays.n213 Tryz.prog Tryz.laysCS_ren:={
 mixed:=by kernel_rfl
 f213:=Tryz.func251.trans (congrArg some (by kernel_rfl))
 f265:=Tryz.func262.trans (congrArg some (by kernel_rfl))
 t3:=Tryz.underlying3
 a3:=Tryz.isAgg3
 z3:=Tryz.sizeOf3
 v3:=Tryz.zeroValue3
 t9:=Tryz.underlying9
 a9:=Tryz.isAgg9
 z9:=Tryz.sizeOf9
 v9:=Tryz.zeroValue9 }
end Go.Proofs
end
