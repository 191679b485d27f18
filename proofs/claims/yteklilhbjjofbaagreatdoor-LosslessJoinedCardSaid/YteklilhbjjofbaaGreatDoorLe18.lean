/- A part of the proof: RdD. -/
import Derived.Lib.LaidTab
import Derived.Test.YteklilhbjjofbaaGreatDoorRows
import Derived.Test.YteklilhbjjofbaaGreatDoorLe17
set_option linter.all false
namespace Go.Hx
section
open Go.Proofs Go.RowKit
def azr {j:Nat} (h:j < 1):j = 0:=by omega
def av6 {P:Program} {t:TypeId} (ht:P.underlying t = some (.int .u32)):Rd P t 1 sC:=by
 intro H enc w sp held fuel cs x h;obtain ⟨n,rfl,_,hw⟩:=DataW.trod_int ht h;have hx:0 <= n /\ n <= 4294967295:=by simpa [Lit.wf,IntKind.min,IntKind.max,IntKind.signed,IntKind.bits] using hw
 refine ⟨rfl,BitVec.ofNat 32 n.toNat,fun j hj=>?_⟩;obtain rfl:=azr hj;refine ⟨_,rfl, ?_,rfl⟩
 have:asI (BitVec.ofNat 32 n.toNat) = n:=by
  unfold asI;rw [BitVec.toNat_ofNat];omega
 rw [this]
def aza:Rd b65 28 1 sC:=av6 Tryz.underlying28
def apa:laidOutB b65 = true:=by kernel_rfl
end
end Go.Hx
