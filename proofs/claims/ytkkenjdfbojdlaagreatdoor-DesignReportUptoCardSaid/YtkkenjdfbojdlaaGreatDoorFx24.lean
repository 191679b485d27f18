/- A part of the proof: RdD. -/
import Derived.Lib.LaidTab
import Derived.Test.YtkkenjdfbojdlaaGreatDoorRows
import Derived.Test.YtkkenjdfbojdlaaGreatDoorFx23
set_option linter.all false
namespace Go.Hx
section
open Go.Proofs Go.RowKit
theorem rd3:Rd Tryz.prog 3 1 (b4p .i64):=b7l Tryz.underlying3
theorem b2w:laidOutB Tryz.prog = true:=by kernel_rfl
theorem bbn:Tryz.prog.readableRec 3 = true ∧ 3 < Tryz.prog.types.size:=⟨by kernel_rfl,of_decide_eq_true (by kernel_rfl)⟩
end
end Go.Hx
