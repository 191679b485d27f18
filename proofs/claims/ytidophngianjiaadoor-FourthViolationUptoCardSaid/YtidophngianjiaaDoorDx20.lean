/- A part of the proof: RdD. -/
import Derived.Lib.LaidTab
import Derived.Test.YtidophngianjiaaDoorRows
import Derived.Test.YtidophngianjiaaDoorDx19
set_option linter.all false
section
namespace Go.Hx
open Go.Proofs Go.RowKit
theorem a9a:laidOutB Tryd.prog = true:=by kernel_rfl
end Go.Hx
end
