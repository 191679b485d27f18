/- A part of the proof: RdD. -/
import Derived.Lib.LaidTab
import Derived.Test.YteklilhbjjofbaaGreatDoorRows
import Derived.Test.YteklilhbjjofbaaGreatDoorLc17
set_option linter.all false
namespace Go.Hx
section
open Go.Proofs Go.RowKit
def aqx:laidOutB b6g = true:=by kernel_rfl
end
end Go.Hx
