/- A part of the proof: RdD. -/
import Derived.Lib.LaidTab
import Derived.Test.YtidophngianjiaaGreatDoorRows
import Derived.Test.YtidophngianjiaaGreatDoor5x20
set_option linter.all false
section
namespace Go.Hx
open Go.Proofs Go.RowKit
theorem are {j : Nat} (h : j < 1) : j = 0 := by omega
theorem ap6 {P : Program} {t : TypeId} (ht : P.underlying t = some (.int .u32)) : Rd P t 1 sC := by
 intro H enc w sp held fuel cs x h
 obtain ⟨n, rfl, _, hw⟩ := DataW.trod_int ht h
 have hx : 0 ≤ n ∧ n ≤ 4294967295 := by simpa [Lit.wf, IntKind.min, IntKind.max, IntKind.signed, IntKind.bits] using hw
 refine ⟨rfl, BitVec.ofNat 32 n.toNat, fun j hj => ?_⟩
 obtain rfl := are hj
 refine ⟨_, rfl, ?_, rfl⟩
 have : asI (BitVec.ofNat 32 n.toNat) = n := by
  unfold asI
  rw [BitVec.toNat_ofNat]
  omega
 rw [this]
theorem an9 : Rd Tryz.prog 38 1 sC := ap6 Tryz.underlying38
theorem rd3 : Rd Tryz.prog 3 1 (ao9 .i64) := ame Tryz.underlying3
theorem ajy : laidOutB Tryz.prog = true := by kernel_rfl
theorem arq : Tryz.prog.readableRec 3 = true ∧ 3 < Tryz.prog.types.size := ⟨by kernel_rfl, of_decide_eq_true (by kernel_rfl)⟩
end Go.Hx
end
