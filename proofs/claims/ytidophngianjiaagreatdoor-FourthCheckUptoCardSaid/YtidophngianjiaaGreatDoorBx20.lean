/- A part of the proof: RdD. -/
import Derived.Lib.LaidTab
import Derived.Test.YtidophngianjiaaGreatDoorRows
import Derived.Test.YtidophngianjiaaGreatDoorBx19
set_option linter.all false
section
namespace Go.Hx
open Go.Proofs Go.RowKit
theorem ag2:laidOutB Tryz.prog = true:=by kernel_rfl
end Go.Hx
end
