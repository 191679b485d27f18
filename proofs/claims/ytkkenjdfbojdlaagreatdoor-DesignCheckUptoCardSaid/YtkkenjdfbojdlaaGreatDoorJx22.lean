/- A part of the proof: RdD. -/
import Derived.Lib.LaidTab
import Derived.Test.YtkkenjdfbojdlaaGreatDoorRows
import Derived.Test.YtkkenjdfbojdlaaGreatDoorJx21
set_option linter.all false
namespace Go.Hx
section
open Go.Proofs Go.RowKit
def rd3:Rd bo6 3 1 (b8y .i64):=bak Tryz.underlying3
def b8g:laidOutB bo6 = true:=by kernel_rfl
def bgk:bo6.readableRec 3 = true /\ 3 < bo6.types.size:=⟨by kernel_rfl,of_decide_eq_true bnz⟩
end
end Go.Hx
