/- A part of the proof: lemmas for the theorem of this claim, merged by a program of ours out of RdZ. -/
import Derived.Lib.LaidTab
import Derived.Test.YtididbpiikfaiaaDoorRows
import Derived.Test.YtididbpiikfaiaaDoorE28
import Derived.Test.YtididbpiikfaiaaDoorE29
set_option linter.all false
section
namespace Go.Hx
open Go.Proofs Go.RowKit
theorem rd3 : Rd Tryd.prog 3 1 (intC .i64) := rd_int Tryd.underlying3
theorem rd25 : Rd Tryd.prog 25 1 (pslC 1 (intC .i64)) := rd_slice Tryd.underlying25 (by kernel_rfl) (by omega) rd3
theorem rd22 : Rd Tryd.prog 22 1 (pslC 1 (pslC 1 (intC .i64))) := rd_slice Tryd.underlying22 (by kernel_rfl) (by omega) rd25
theorem laidOut : laidOutB Tryd.prog = true := by kernel_rfl
theorem par24 : Tryd.prog.readableRec 24 = true ∧ 24 < Tryd.prog.types.size := ⟨by kernel_rfl, of_decide_eq_true (by kernel_rfl)⟩
end Go.Hx
end
