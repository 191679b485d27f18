/- A part of the proof: RdD. -/
import Derived.Lib.LaidTab
import Derived.Test.YtmoggbnlhllhaaaGreatDoorRows
import Derived.Test.YtmoggbnlhllhaaaGreatDoorUx17
set_option linter.all false
namespace Go.Hx
section
open Go.Proofs Go.RowKit
def b31:laidOutB bqh=true:=by kernel_rfl
end
end Go.Hx
