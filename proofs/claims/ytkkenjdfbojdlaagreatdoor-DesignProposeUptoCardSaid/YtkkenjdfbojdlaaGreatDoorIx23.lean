/- A part of the proof: RdD. -/
import Derived.Lib.LaidTab
import Derived.Test.YtkkenjdfbojdlaaGreatDoorRows
import Derived.Test.YtkkenjdfbojdlaaGreatDoorIx22
set_option linter.all false
namespace Go.Hx
section
open Go.Proofs Go.RowKit
def bbe:laidOutB brj = true:=by kernel_rfl
end
end Go.Hx
