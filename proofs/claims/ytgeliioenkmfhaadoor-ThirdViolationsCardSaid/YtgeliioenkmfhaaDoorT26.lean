/- A part of the proof: lemmas for the theorem of this claim, merged by a program of ours out of RdD. -/
import Derived.Lib.LaidTab
import Derived.Test.YtgeliioenkmfhaaDoorRows
import Derived.Test.YtgeliioenkmfhaaDoorT25
set_option linter.all false
section
namespace Go.Hx
open Go.Proofs Go.RowKit
theorem one0 {j : Nat} (h : j < 1) : j = 0 := by omega
theorem rd_u32 {P : Program} {t : TypeId} (ht : P.underlying t = some (.int .u32)) : Rd P t 1 sC := by
  intro H enc w sp held fuel cs x h
  obtain ⟨n, rfl, _, hw⟩ := DataW.trod_int ht h
  have hx : 0 ≤ n ∧ n ≤ 4294967295 := by simpa [Lit.wf, IntKind.min, IntKind.max, IntKind.signed, IntKind.bits] using hw
  refine ⟨rfl, BitVec.ofNat 32 n.toNat, fun j hj => ?_⟩
  obtain rfl := one0 hj
  refine ⟨_, rfl, ?_, rfl⟩
  have : asI (BitVec.ofNat 32 n.toNat) = n := by
    unfold asI
    rw [BitVec.toNat_ofNat]
    omega
  rw [this]
theorem rd30 : Rd Tryd.prog 30 1 sC := rd_u32 Tryd.underlying30
theorem rd3 : Rd Tryd.prog 3 1 (intC .i64) := rd_int Tryd.underlying3
theorem rd32 : Rd Tryd.prog 32 2 Fd.c := by
  intro H enc w sp held fuel cs x h
  obtain ⟨hl, n, hf⟩ := rd_fields Tryd.underlying32 h
  obtain ⟨y0, e0⟩ := hf 0 _ rfl
  obtain ⟨y1, e1⟩ := hf 1 _ rfl
  obtain ⟨a0, h0⟩ := rd_field rd30 e0
  obtain ⟨a1, h1⟩ := rd_field rd30 e1
  refine ⟨hl.trans (by kernel_rfl), (⟨a0, a1⟩ : Fd), fun j hj => ?_⟩
  match j, hj with
  | 0, _ => exact h0 0 (by omega)
  | 1, _ => exact h1 0 (by omega)
theorem rd22 : Rd Tryd.prog 22 1 (pslC 2 Fd.c) := rd_slice Tryd.underlying22 (by kernel_rfl) (by omega) rd32
theorem laidOut : laidOutB Tryd.prog = true := by kernel_rfl
theorem par22 : Tryd.prog.readableRec 22 = true ∧ 22 < Tryd.prog.types.size := ⟨by kernel_rfl, of_decide_eq_true (by kernel_rfl)⟩
theorem par30 : Tryd.prog.readableRec 30 = true ∧ 30 < Tryd.prog.types.size := ⟨by kernel_rfl, of_decide_eq_true (by kernel_rfl)⟩
theorem par3 : Tryd.prog.readableRec 3 = true ∧ 3 < Tryd.prog.types.size := ⟨by kernel_rfl, of_decide_eq_true (by kernel_rfl)⟩
end Go.Hx
end
