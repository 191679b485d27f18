/- A part of the proof: RdD. -/
import Derived.Lib.LaidTab
import Derived.Test.YteklilhbjjofbaaGreatDoorRows
import Derived.Test.YteklilhbjjofbaaGreatDoorLd17
set_option linter.all false
namespace Go.Hx
section
open Go.Proofs Go.RowKit
def aud:laidOutB b98 = true:=by kernel_rfl
end
end Go.Hx
