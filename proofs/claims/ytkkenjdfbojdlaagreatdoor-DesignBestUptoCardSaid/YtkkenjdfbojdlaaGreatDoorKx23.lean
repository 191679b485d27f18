/- A part of the proof: RdD. -/
import Derived.Lib.LaidTab
import Derived.Test.YtkkenjdfbojdlaaGreatDoorRows
import Derived.Test.YtkkenjdfbojdlaaGreatDoorKx22
set_option linter.all false
namespace Go.Hx
section
open Go.Proofs Go.RowKit
def baq:laidOutB br6 = true:=by kernel_rfl
end
end Go.Hx
