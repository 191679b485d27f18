/- A part of the proof: lemmas for the theorem of this claim, merged by a program of ours out of RdZ. -/
import Derived.Lib.LaidTab
import Derived.Test.YtididbpiikfaiaaDoorRows
import Derived.Test.YtididbpiikfaiaaDoorC31
set_option linter.all false
section
namespace Go.Hx
open Go.Proofs Go.RowKit
theorem one0 {j : Nat} (h : j < 1) : j = 0 := by omega
theorem rd_u32 {P : Program} {t : TypeId} (ht : P.underlying t = some (.int .u32)) : Rd P t 1 sC := by
  intro H enc w sp held fuel cs x h
  obtain ⟨n, rfl, _, hw⟩ := DataW.trod_int ht h
  have hx : 0 ≤ n ∧ n ≤ 4294967295 := by simpa [Lit.wf, IntKind.min, IntKind.max, IntKind.signed, IntKind.bits] using hw
  refine ⟨rfl, BitVec.ofNat 32 n.toNat, fun j hj => ?_⟩
  obtain rfl := one0 hj
  refine ⟨_, rfl, ?_, rfl⟩
  have : asI (BitVec.ofNat 32 n.toNat) = n := by
    unfold asI
    rw [BitVec.toNat_ofNat]
    omega
  rw [this]
theorem rd33 : Rd Tryd.prog 33 1 sC := rd_u32 Tryd.underlying33
theorem rd3 : Rd Tryd.prog 3 1 (intC .i64) := rd_int Tryd.underlying3
theorem rd31 : Rd Tryd.prog 31 1 (pslC 1 sC) := rd_slice Tryd.underlying31 (by kernel_rfl) (by omega) rd33
theorem rd25 : Rd Tryd.prog 25 1 (pslC 1 (intC .i64)) := rd_slice Tryd.underlying25 (by kernel_rfl) (by omega) rd3
theorem rd22 : Rd Tryd.prog 22 1 (pslC 1 (pslC 1 (intC .i64))) := rd_slice Tryd.underlying22 (by kernel_rfl) (by omega) rd25
theorem laidOut : laidOutB Tryd.prog = true := by kernel_rfl
theorem par31 : Tryd.prog.readableRec 31 = true ∧ 31 < Tryd.prog.types.size := ⟨by kernel_rfl, of_decide_eq_true (by kernel_rfl)⟩
theorem par24 : Tryd.prog.readableRec 24 = true ∧ 24 < Tryd.prog.types.size := ⟨by kernel_rfl, of_decide_eq_true (by kernel_rfl)⟩
theorem par25 : Tryd.prog.readableRec 25 = true ∧ 25 < Tryd.prog.types.size := ⟨by kernel_rfl, of_decide_eq_true (by kernel_rfl)⟩
theorem par3 : Tryd.prog.readableRec 3 = true ∧ 3 < Tryd.prog.types.size := ⟨by kernel_rfl, of_decide_eq_true (by kernel_rfl)⟩
end Go.Hx
end
