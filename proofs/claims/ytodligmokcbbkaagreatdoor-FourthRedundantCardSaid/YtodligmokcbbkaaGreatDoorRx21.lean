/- A part of the proof: RdD. -/
import Derived.Lib.LaidTab
import Derived.Test.YtodligmokcbbkaaGreatDoorRows
import Derived.Test.YtodligmokcbbkaaGreatDoorRx20
set_option linter.all false
section
namespace Go.Hx
open Go.Proofs Go.RowKit
theorem avx {j:Nat} (h:j < 1):j = 0:=by omega
theorem aqf {P:Program} {t:TypeId} (ht:P.underlying t = some (.int .u32)):Rd P t 1 sC:=by
 intro H enc w sp held fuel cs x h
 obtain ⟨n,rfl,_,hw⟩:=DataW.trod_int ht h
 have hx:0 ≤ n ∧ n ≤ 4294967295:=by simpa [Lit.wf,IntKind.min,IntKind.max,IntKind.signed,IntKind.bits] using hw
 refine ⟨rfl,BitVec.ofNat 32 n.toNat,fun j hj=>?_⟩
 obtain rfl:=avx hj
 refine ⟨_,rfl, ?_,rfl⟩
 have:asI (BitVec.ofNat 32 n.toNat) = n:=by
  unfold asI
  rw [BitVec.toNat_ofNat]
  omega
 rw [this]
theorem aps:Rd Tryz.prog 27 1 sC:=aqf Tryz.underlying27
theorem anl:laidOutB Tryz.prog = true:=by kernel_rfl
end Go.Hx
end
