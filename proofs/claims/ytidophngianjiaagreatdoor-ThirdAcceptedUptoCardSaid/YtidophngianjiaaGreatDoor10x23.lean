/- A part of the proof: RdD. -/
import Derived.Lib.LaidTab
import Derived.Test.YtidophngianjiaaGreatDoorRows
import Derived.Test.YtidophngianjiaaGreatDoor10x22
set_option linter.all false
section
namespace Go.Hx
open Go.Proofs Go.RowKit
theorem auo : laidOutB Tryz.prog = true := by kernel_rfl
end Go.Hx
end
