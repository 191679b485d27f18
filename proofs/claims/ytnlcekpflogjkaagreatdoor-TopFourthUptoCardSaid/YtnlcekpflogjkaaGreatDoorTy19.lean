/- A part of the proof: RdD. -/
import Derived.Lib.LaidTab
import Derived.Test.YtnlcekpflogjkaaGreatDoorRows
import Derived.Test.YtnlcekpflogjkaaGreatDoorTy18
set_option linter.all false
namespace Go.Hx
section
open Go.Proofs Go.RowKit
def bdp:laidOutB bxn=true:=by kernel_rfl
end
end Go.Hx
