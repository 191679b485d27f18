/- A part of the proof: lemmas for the theorem of this claim, merged by a program of ours out of Lw. -/
import Derived.Deep.DeepHandedRow
import Derived.OpenShut
import Derived.ProofKit
import Derived.Test.YtgeliioenkmfhaaGreatDoorCards
import Derived.Test.YtgeliioenkmfhaaGreatDoorTie
import Derived.WalkKit
import Derived.Test.YtgeliioenkmfhaaGreatDoorZ31
set_option linter.all false
section
namespace Go.Hx
open Go.Proofs Go.ChangeShapes Go.WideShapes Go.ChangeAt Go.RowKit
theorem own : ownKnob Tryz.prog.godebug = none := by kernel_rfl
theorem gTab : Tryz.prog.globalNamed "math/bits.deBruijn32tab" = some 0 := by kernel_rfl
theorem gTabType : (Tryz.prog.globals[0]?).map (·.type) = some 104 := by kernel_rfl
theorem cells118 : Tryz.prog.cellsOf 104 = 32 := by kernel_rfl
theorem cells5 : Tryz.prog.cellsOf 5 = 1 := by kernel_rfl
def tabZ : List Int := [0, 1, 28, 2, 29, 14, 24, 3, 30, 22, 20, 15, 25, 17, 4, 8, 31, 27, 13, 23, 21, 19, 16, 7, 26, 12, 18, 6, 11, 5, 10, 9]
theorem tabOk {W : World} (h : laidMetH Tryz.prog [("math/bits.deBruijn32tab", YtgeliioenkmfhaaGreatDoor.Rows.laid_math_bits_deBruijn32tab)] W) : TabOk (nowImm W) := by
  have ht : Lib.TabIs Tryz.prog W "math/bits.deBruijn32tab" .u8 tabZ := Lib.tabIs_of_head (rest := []) gTab gTabType Tryz.underlying104 Tryz.underlying5 cells5 cells118 h
  intro b off v hv
  unfold seatTab seatDat at hv
  split at hv
  · have hlt : off < 32 := by
      rcases Nat.lt_or_ge off 32 with h | h
      · exact h
      · rw [List.getElem?_eq_none (by simpa using h)] at hv; cases hv
    have hc := ht.cell gTab off hlt
    have e : v = .int .u8 (tabZ.getD off 0) := by
      have : (tabZ.map fun z => Value.int .u8 z)[off]? = some v := hv
      rw [List.getElem?_map] at this
      rw [List.getD_eq_getElem?_getD]
      cases hz : tabZ[off]? with
      | none => rw [hz] at this; cases this
      | some z => rw [hz] at this; exact (Option.some.inj this).symm
    rw [e]
    unfold World.cell? at hc
    unfold cellIn nowImm
    split at hc
    · rename_i c t fr hh
      rw [hh]
      simpa using hc
    · cases hc
  · cases hv
noncomputable def laidWorld (os : Os) : World :=
  { World.holding Tryz.prog os ⟨#[], #[], []⟩ with heap := (World.holding Tryz.prog os ⟨#[], #[], []⟩).heap.modify 0 fun
      | .cells _ t frozen => .cells (tabZ.map fun z => Value.int .u8 z).toArray t frozen
      | o => o }
end Go.Hx
end
