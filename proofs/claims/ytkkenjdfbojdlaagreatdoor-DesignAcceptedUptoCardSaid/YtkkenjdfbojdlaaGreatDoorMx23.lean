/- A part of the proof: RdD. -/
import Derived.Lib.LaidTab
import Derived.Test.YtkkenjdfbojdlaaGreatDoorRows
import Derived.Test.YtkkenjdfbojdlaaGreatDoorMx22
set_option linter.all false
namespace Go.Hx
section
open Go.Proofs Go.RowKit
def bb0:laidOutB btb = true:=by kernel_rfl
end
end Go.Hx
