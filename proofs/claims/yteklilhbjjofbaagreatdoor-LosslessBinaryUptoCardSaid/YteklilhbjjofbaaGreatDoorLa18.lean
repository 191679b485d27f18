/- A part of the proof: RdD. -/
import Derived.Lib.LaidTab
import Derived.Test.YteklilhbjjofbaaGreatDoorRows
import Derived.Test.YteklilhbjjofbaaGreatDoorLa17
set_option linter.all false
namespace Go.Hx
section
open Go.Proofs Go.RowKit
def azn {j:Nat} (h:j < 1):j = 0:=by omega
def auq {P:Program} {t:TypeId} (ht:P.underlying t = some (.int .u32)):Rd P t 1 sC:=by
 intro H enc w sp held fuel cs x h;obtain ⟨n,rfl,_,hw⟩:=DataW.trod_int ht h;have hx:0 <= n /\ n <= 4294967295:=by simpa [Lit.wf,IntKind.min,IntKind.max,IntKind.signed,IntKind.bits] using hw
 refine ⟨rfl,BitVec.ofNat 32 n.toNat,fun j hj=>?_⟩;obtain rfl:=azn hj;refine ⟨_,rfl, ?_,rfl⟩
 have:asI (BitVec.ofNat 32 n.toNat) = n:=by
  unfold asI;rw [BitVec.toNat_ofNat];omega
 rw [this]
def azb:Rd b6e 28 1 sC:=auq Tryz.underlying28
def rd3:Rd b6e 3 1 (av4 .i64):=avo Tryz.underlying3
def a0y:laidOutB b6e = true:=by kernel_rfl
def b62 {p:Prop} (h:p:=by kernel_rfl):p:=h
def auw:b6e.readableRec 3 = true /\ 3 < b6e.types.size:=⟨by kernel_rfl,of_decide_eq_true b62⟩
end
end Go.Hx
