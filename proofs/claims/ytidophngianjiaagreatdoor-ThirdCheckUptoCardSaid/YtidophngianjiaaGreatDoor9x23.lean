/- A part of the proof: RdD. -/
import Derived.Lib.LaidTab
import Derived.Test.YtidophngianjiaaGreatDoorRows
import Derived.Test.YtidophngianjiaaGreatDoor9x22
set_option linter.all false
section
namespace Go.Hx
open Go.Proofs Go.RowKit
theorem b03 {j : Nat} (h : j < 1) : j = 0 := by omega
theorem axo {P : Program} {t : TypeId} (ht : P.underlying t = some (.int .u32)) : Rd P t 1 sC := by
 intro H enc w sp held fuel cs x h
 obtain ⟨n, rfl, _, hw⟩ := DataW.trod_int ht h
 have hx : 0 ≤ n ∧ n ≤ 4294967295 := by simpa [Lit.wf, IntKind.min, IntKind.max, IntKind.signed, IntKind.bits] using hw
 refine ⟨rfl, BitVec.ofNat 32 n.toNat, fun j hj => ?_⟩
 obtain rfl := b03 hj
 refine ⟨_, rfl, ?_, rfl⟩
 have : asI (BitVec.ofNat 32 n.toNat) = n := by
  unfold asI
  rw [BitVec.toNat_ofNat]
  omega
 rw [this]
theorem aoi : Rd Tryz.prog 38 1 sC := axo Tryz.underlying38
theorem rd3 : Rd Tryz.prog 3 1 (awp .i64) := av9 Tryz.underlying3
theorem azw : Rd Tryz.prog 40 2 Fd.c := by
 intro H enc w sp held fuel cs x h
 obtain ⟨hl, n, hf⟩ := ak5 Tryz.underlying40 h
 obtain ⟨y0, e0⟩ := hf 0 _ rfl
 obtain ⟨y1, e1⟩ := hf 1 _ rfl
 obtain ⟨a0, h0⟩ := abp aoi e0
 obtain ⟨a1, h1⟩ := abp aoi e1
 refine ⟨hl.trans (by kernel_rfl), (⟨a0, a1⟩ : Fd), fun j hj => ?_⟩
 match j, hj with
 | 0, _ => exact h0 0 (by omega)
 | 1, _ => exact h1 0 (by omega)
theorem aud : laidOutB Tryz.prog = true := by kernel_rfl
theorem azr : Tryz.prog.readableRec 3 = true ∧ 3 < Tryz.prog.types.size := ⟨by kernel_rfl, of_decide_eq_true (by kernel_rfl)⟩
end Go.Hx
end
