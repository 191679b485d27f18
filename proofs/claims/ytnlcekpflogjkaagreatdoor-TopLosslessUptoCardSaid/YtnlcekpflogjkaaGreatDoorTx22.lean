/- A part of the proof: RdD. -/
import Derived.Lib.LaidTab
import Derived.Test.YtnlcekpflogjkaaGreatDoorRows
import Derived.Test.YtnlcekpflogjkaaGreatDoorTx20
import Derived.Test.YtnlcekpflogjkaaGreatDoorTx21
set_option linter.all false
namespace Go.Hx
section
open Go.Proofs Go.RowKit
def b8z:laidOutB bw0 = true:=by kernel_rfl
end
end Go.Hx
