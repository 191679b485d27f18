/- A part of the proof: RdD. -/
import Derived.Lib.LaidTab
import Derived.Test.YtodligmokcbbkaaDoorRows
import Derived.Test.YtodligmokcbbkaaDoorPx21
set_option linter.all false
section
namespace Go.Hx
open Go.Proofs Go.RowKit
theorem akm:laidOutB Tryd.prog = true:=by kernel_rfl
end Go.Hx
end
