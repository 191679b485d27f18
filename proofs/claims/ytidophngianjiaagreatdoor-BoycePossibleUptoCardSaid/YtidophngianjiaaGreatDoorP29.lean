/- A part of the proof: lemmas for the theorem of this claim, merged by a program of ours out of RdD. -/
import Derived.Lib.LaidTab
import Derived.Test.YtidophngianjiaaGreatDoorRows
import Derived.Test.YtidophngianjiaaGreatDoorP28
set_option linter.all false
section
namespace Go.Hx
open Go.Proofs Go.RowKit
theorem laidOut : laidOutB Tryz.prog = true := by kernel_rfl
end Go.Hx
end
