/- A part of the proof: RdD. -/
import Derived.Lib.LaidTab
import Derived.Test.YteklilhbjjofbaaGreatDoorRows
import Derived.Test.YteklilhbjjofbaaGreatDoorLb18
set_option linter.all false
namespace Go.Hx
section
open Go.Proofs Go.RowKit
def rd3:Rd b62 3 1 (au7 .i64):=aut Tryz.underlying3
def ap4:laidOutB b62 = true:=by kernel_rfl
end
end Go.Hx
