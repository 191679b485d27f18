/- A part of the proof: RdD. -/
import Derived.Lib.LaidTab
import Derived.Test.YtnlcekpflogjkaaGreatDoorRows
import Derived.Test.YtnlcekpflogjkaaGreatDoorTz19
import Derived.Test.YtnlcekpflogjkaaGreatDoorTz20
set_option linter.all false
namespace Go.Hx
section
open Go.Proofs Go.RowKit
def bct:laidOutB bxr=true:=by kernel_rfl
end
end Go.Hx
