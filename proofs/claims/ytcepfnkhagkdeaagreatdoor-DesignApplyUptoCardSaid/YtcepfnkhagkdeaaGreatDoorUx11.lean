/- A part of the proof: RdD. -/
import Derived.Lib.LaidTab
import Derived.Test.YtcepfnkhagkdeaaGreatDoorRows
import Derived.Test.YtcepfnkhagkdeaaGreatDoorUx09
import Derived.Test.YtcepfnkhagkdeaaGreatDoorUx10
set_option linter.all false
namespace Go.Hx
section
open Go.Proofs Go.RowKit
def bdp:laidOutB Ab=true:=by kernel_rfl
end
end Go.Hx
