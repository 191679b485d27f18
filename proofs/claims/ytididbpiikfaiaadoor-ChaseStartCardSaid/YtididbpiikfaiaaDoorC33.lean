/- A part of the proof: lemmas for the theorem of this claim, merged by a program of ours out of LwZ, X19. -/
import Derived.Deep.DeepHandedRow
import Derived.OpenShut
import Derived.ProofKit
import Derived.Test.YtididbpiikfaiaaDoorCards
import Derived.Test.YtididbpiikfaiaaDoorTie
import Derived.WalkKit
import Derived.Test.YtididbpiikfaiaaDoorC31
import Derived.Test.YtididbpiikfaiaaDoorC32
set_option linter.all false
section
namespace Go.Hx
open Go.Proofs Go.ChangeShapes Go.WideShapes Go.ChangeAt Go.RowKit
theorem own : ownKnob Tryd.prog.godebug = none := by kernel_rfl
theorem gTab : Tryd.prog.globalNamed "math/bits.deBruijn32tab" = some 0 := by kernel_rfl
theorem gTabType : (Tryd.prog.globals[0]?).map (·.type) = some 119 := by kernel_rfl
theorem cells119 : Tryd.prog.cellsOf 119 = 32 := by kernel_rfl
theorem cells5 : Tryd.prog.cellsOf 5 = 1 := by kernel_rfl
def tabZ : List Int := [0, 1, 28, 2, 29, 14, 24, 3, 30, 22, 20, 15, 25, 17, 4, 8, 31, 27, 13, 23, 21, 19, 16, 7, 26, 12, 18, 6, 11, 5, 10, 9]
theorem tabOk {W : World} (h : laidMetH Tryd.prog [("math/bits.deBruijn32tab", YtididbpiikfaiaaDoor.Rows.laid_math_bits_deBruijn32tab)] W) : TabOk (nowImm W) := by
  have ht : Lib.TabIs Tryd.prog W "math/bits.deBruijn32tab" .u8 tabZ := Lib.tabIs_of_head (rest := []) gTab gTabType Tryd.underlying119 Tryd.underlying5 cells5 cells119 h
  intro b off v hv
  unfold seatTab seatDat at hv
  split at hv
  · have hlt : off < 32 := by
      rcases Nat.lt_or_ge off 32 with h | h
      · exact h
      · rw [List.getElem?_eq_none (by simpa using h)] at hv; cases hv
    have hc := ht.cell gTab off hlt
    have e : v = .int .u8 (tabZ.getD off 0) := by
      have : (tabZ.map fun z => Value.int .u8 z)[off]? = some v := hv
      rw [List.getElem?_map] at this
      rw [List.getD_eq_getElem?_getD]
      cases hz : tabZ[off]? with
      | none => rw [hz] at this; cases this
      | some z => rw [hz] at this; exact (Option.some.inj this).symm
    rw [e]
    unfold World.cell? at hc
    unfold cellIn nowImm
    split at hc
    · rename_i c t fr hh
      rw [hh]
      simpa using hc
    · cases hc
  · cases hv
noncomputable def laidWorld (os : Os) : World :=
  { World.holding Tryd.prog os ⟨#[], #[], []⟩ with heap := (World.holding Tryd.prog os ⟨#[], #[], []⟩).heap.modify 0 fun
      | .cells _ t frozen => .cells (tabZ.map fun z => Value.int .u8 z).toArray t frozen
      | o => o }
end Go.Hx
end
section
namespace Go.Hx
open Go.Proofs
set_option maxRecDepth 100000
theorem good12 : goodFn Tryd.prog 12 := ⟨Tryd.f12, Tryd.func12, by kernel_rfl, by kernel_rfl⟩
theorem cFew14 (n : Int) (l : List Rw) : HPure Tryd.prog 12 [pT n l] (prOf [pB (decide (l.length ≤ 8 ∧ ∀ i, i < l.length → (l.getD i default).length ≤ 20))]) := by
  refine hpure_of (nt := 20) Trydok Tryd.func12 rfl rfl (Nat.le_of_ble_eq_true rfl) ?_; refine hw_seq ?_; refine hw_region (E := TrydE) Trydok ?_; refine rm 0 rfl rfl rfl rfl rfl rfl ?_; refine rq rfl rfl rfl rfl rfl ?_
  refine rg_nil ?_; show HW _ _ _ _ _
  refine hw_joinK (ι := Unit) ⟨[(1, some _)], [(0, some _)]⟩ ⟨⟨⟨_, rfl, CoR.refl _⟩, trivial⟩, ⟨⟨_, rfl, CoO.refl _⟩, trivial⟩⟩ (fun _i => ⟨[], []⟩) (fun _i => ∀ i, i < l.length → (l.getD i default).length ≤ 20) ?_ ?_
  · skip
    refine hw_seq ?_
    refine hw_bo 0 1 rfl rfl fun hn => ?_
    refine hw_region (E := TrydE) Trydok ?_; (iterate 4 refine rq rfl rfl rfl rfl rfl ?_); refine rg_nil ?_; show HW _ _ _ _ _; refine hw_block ?_
    refine hw_loopK (ι := Nat) ⟨[(1, some _), (6, some _), (7, some _)], [(0, some _)]⟩ ⟨⟨⟨_, rfl, CoR.refl _⟩, ⟨_, rfl, CoR.refl _⟩, ⟨_, rfl, CoR.refl _⟩, trivial⟩, ⟨⟨_, rfl, CoO.refl _⟩, trivial⟩⟩ (fun i => ⟨[(8, some (vI i))], []⟩) (fun i => i ≤ l.length ∧ (∀ j, j < i → (l.getD j default).length ≤ 20)) (fun i => l.length - i) (0) (⟨Nat.zero_le _, all_zero⟩) ⟨⟨⟨_, rfl, (by first | exact CoR.refl _ | exact coi (by omega) | exact cob (by simp_all))⟩, trivial⟩, trivial⟩ ?_
    rintro i ⟨hi, hI⟩
    refine hw_seq ?_; refine hw_region (E := TrydE) Trydok ?_; refine rq rfl rfl rfl rfl rfl ?_; refine rg_nil ?_; show HW _ _ _ _ _; refine hw_seq ?_; refine hw_cond _ rfl (fun r0 => ?_) (fun r0 => ?_)
    · skip
      have h0 := r0
      have h0 := of_decide_eq_true h0
      try simp only [Int.toNat_natCast] at h0
      refine hw_skip ?_; show HW _ _ _ _ _; refine hw_seq ?_; refine hw_block ?_; refine hw_seq ?_; refine hw_region (E := TrydE) Trydok ?_; (iterate 3 refine rq rfl rfl rfl rfl rfl ?_); refine rg_nil ?_; show HW _ _ _ _ _
      refine hw_seq ?_; refine hw_region (E := TrydE) Trydok ?_; (iterate 3 refine rq rfl rfl rfl rfl rfl ?_); refine rg_nil ?_; show HW _ _ _ _ _; refine hw_cond _ rfl (fun r1 => ?_) (fun r1 => ?_)
      · skip
        have h1 := r1
        have h1 := of_decide_eq_true h1
        try simp only [Int.toNat_natCast] at h1
        refine hw_seq ?_; refine hw_region (E := TrydE) Trydok ?_; refine rq rfl rfl rfl rfl rfl ?_; refine rg_nil ?_; show HW _ _ _ _ _; refine hw_ret ?_; refine ⟨.inr rfl, ?_⟩
        exact ⟨_, _, _, _, rfl, (by (repeat' apply And.intro) <;> first | trivial | exact Nat.le_of_ble_eq_true rfl | rfl), rfl, (by (repeat' apply And.intro) <;> first | trivial | exact Nat.le_of_ble_eq_true rfl | rfl), ⟨ccb (decide_eq_false fun e => by have := e.2 i (by omega); omega).symm, trivial⟩⟩
      · skip
        have h1 := r1
        have h1 := of_decide_eq_false h1
        try simp only [Int.toNat_natCast] at h1
        refine hw_skip ?_; show HW _ _ _ _ _; refine hw_region (E := TrydE) Trydok ?_; (iterate 2 refine rq rfl rfl rfl rfl rfl ?_); refine rg_nil ?_; refine ⟨i + 1, ?_, ?_, ?_⟩
        · exact ⟨by show i + 1 ≤ _; omega, all_succ hI (by omega)⟩
        · first | omega | (dsimp only; omega)
        · exact ⟨⟨⟨_, rfl, (by first | exact CoR.refl _ | exact coi (by omega) | exact cob (by simp_all))⟩, ⟨_, rfl, CoR.refl _⟩, ⟨_, rfl, CoR.refl _⟩, ⟨_, rfl, CoR.refl _⟩, trivial⟩, ⟨⟨_, rfl, CoO.refl _⟩, trivial⟩⟩
    · skip
      have h0 := r0
      have h0 := of_decide_eq_false h0
      try simp only [Int.toNat_natCast] at h0
      refine hw_exit ?_; refine ⟨(), ?_, ?_⟩
      · exact fun j hj => hI j (by omega)
      · exact ⟨⟨⟨_, rfl, CoR.refl _⟩, trivial⟩, ⟨⟨_, rfl, CoO.refl _⟩, trivial⟩⟩
  · rintro _ hj
    refine hw_seq ?_; refine hw_region (E := TrydE) Trydok ?_; (iterate 5 refine rq rfl rfl rfl rfl rfl ?_); refine rg_nil ?_; show HW _ _ _ _ _; refine hw_ret ?_; refine ⟨.inr rfl, ?_⟩
    exact ⟨_, _, _, _, rfl, (by (repeat' apply And.intro) <;> first | trivial | exact Nat.le_of_ble_eq_true rfl | rfl), rfl, (by (repeat' apply And.intro) <;> first | trivial | exact Nat.le_of_ble_eq_true rfl | rfl), ⟨ccb (decide_eq_decide.2 ⟨fun h => ⟨by omega, hj⟩, fun h => by omega⟩), trivial⟩⟩
theorem good3 : goodFn Tryd.prog 3 := ⟨Tryd.f3, Tryd.func3, by kernel_rfl, by kernel_rfl⟩
theorem cLawValid (n : Int) (l : List Rw) (row : Rw) : HPure Tryd.prog 3 [pT n l, pZ row] (prOf [pB true]) := by
  refine hpure_of (nt := 35) Trydok Tryd.func3 rfl rfl (Nat.le_of_ble_eq_true rfl) ?_; refine hw_seq ?_; refine hw_region (E := TrydE) Trydok ?_; refine rm 0 rfl rfl rfl rfl rfl rfl ?_; refine rq rfl rfl rfl rfl rfl ?_
  refine rg_nil ?_; show HW _ _ _ _ _; (iterate 2 refine hw_seq ?_); refine hw_region (E := TrydE) Trydok ?_; refine rc rfl rfl rfl rfl rfl rfl good11 (cAwake) (CoL.refl _) rfl rfl ?_; (iterate 3 refine rq rfl rfl rfl rfl rfl ?_)
  refine rc rfl rfl rfl rfl rfl rfl good12 (cFew14 n l) (CoL.refl _) rfl rfl ?_; (iterate 3 refine rq rfl rfl rfl rfl rfl ?_); refine rsplit rfl rfl (fun r0 => ?_) (fun r0 => ?_)
  · skip
    have h0 := r0
    have h0 := not_t h0
    (iterate 3 refine rk rfl rfl rfl (gtf r0) ?_); refine rq rfl rfl rfl rfl rfl ?_ (hp := r0); refine rg_nil ?_; show HW _ _ _ _ _; refine hw_cond _ rfl (fun _ => ?_) (fun e => by cases e); refine hw_seq ?_
    refine hw_region (E := TrydE) Trydok ?_; refine rc rfl rfl rfl rfl rfl rfl good11 (cAwake) (CoL.refl _) rfl rfl ?_; refine rq rfl rfl rfl rfl rfl ?_; refine rg_nil ?_; show HW _ _ _ _ _; refine hw_ret ?_; refine ⟨.inr rfl, ?_⟩
    exact ⟨_, _, _, _, rfl, (by (repeat' apply And.intro) <;> first | trivial | exact Nat.le_of_ble_eq_true rfl | rfl), rfl, (by (repeat' apply And.intro) <;> first | trivial | exact Nat.le_of_ble_eq_true rfl | rfl), CoL.refl _⟩
  · skip
    have h0 := r0
    have h0 := not_f h0
    (iterate 3 refine rq rfl rfl rfl rfl (gff r0) ?_); refine rq rfl rfl rfl rfl rfl ?_; refine rg_nil ?_; show HW _ _ _ _ _; refine hw_cond _ rfl (fun r1 => ?_) (fun r1 => ?_)
    · skip
      have h1 := r1
      have h1 := bif_f r0 h1
      have h1 := of_decide_eq_true h1
      try simp only [Int.toNat_natCast] at h1
      refine hw_seq ?_; refine hw_region (E := TrydE) Trydok ?_; refine rc rfl rfl rfl rfl rfl rfl good11 (cAwake) (CoL.refl _) rfl rfl ?_; refine rq rfl rfl rfl rfl rfl ?_; refine rg_nil ?_; show HW _ _ _ _ _; refine hw_ret ?_
      refine ⟨.inr rfl, ?_⟩
      exact ⟨_, _, _, _, rfl, (by (repeat' apply And.intro) <;> first | trivial | exact Nat.le_of_ble_eq_true rfl | rfl), rfl, (by (repeat' apply And.intro) <;> first | trivial | exact Nat.le_of_ble_eq_true rfl | rfl), CoL.refl _⟩
    · skip
      have h1 := r1
      have h1 := bif_f r0 h1
      have h1 := of_decide_eq_false h1
      try simp only [Int.toNat_natCast] at h1
      have hfew : l.length ≤ 8 ∧ ∀ i, i < l.length → (l.getD i default).length ≤ 20 := of_decide_eq_true (by simp_all)
      have hrw : row.length ≤ 20 := by first | omega | (simp_all; omega)
      have hbig : ∀ i, i < l.length → (l.getD i default).length ≤ 17592186044416 := fun i hi => by have := hfew.2 i hi; omega
      refine hw_skip ?_; show HW _ _ _ _ _; refine hw_seq ?_; refine hw_draw (E := TrydE) Trydok Trydmixed [0, 1, 2, 3, 4, 5, 6, 7, 8, 9, 10, 11, 12, 13, 14, 15, 16, 17] ?_; refine rq rfl rfl rfl rfl rfl ?_
      refine rc rfl rfl rfl rfl rfl rfl good14 (cLCopiedP n l hbig (by omega)) (CoL.refl _) rfl rfl ?_; refine rc rfl rfl rfl rfl rfl rfl good13 (cTValid n l) (CoL.refl _) rfl rfl ?_; refine rq rfl rfl rfl rfl rfl ?_
      refine rc rfl rfl rfl rfl rfl rfl good15 (cRTValid n l) (CoL.refl _) rfl rfl ?_; (iterate 2 refine rq rfl rfl rfl rfl rfl ?_); refine rsplit rfl rfl (fun r2 => ?_) (fun r2 => ?_)
      · skip
        have h2 := r2
        refine rq rfl rfl rfl rfl (gtt r2) ?_; refine rc rfl rfl rfl rfl rfl rfl good14 (cLCopiedP n l hbig (by omega)) (CoL.refl _) rfl (gtt r2) ?_; refine rq rfl rfl rfl rfl (gtt r2) ?_
        refine rc rfl rfl rfl rfl rfl rfl good17 (cloneP17 row.length false (lf zC row) (by omega)) (CoL.refl _) rfl (gtt r2) ?_; refine rc rfl rfl rfl rfl rfl rfl good16 (cCont n l row) (CoL.refl _) rfl (gtt r2) ?_
        (iterate 2 refine rq rfl rfl rfl rfl (gtt r2) ?_); refine rc rfl rfl rfl rfl rfl rfl good18 (cRCont n l row) (CoL.refl _) rfl (gtt r2) ?_; refine rq rfl rfl rfl rfl (gtt r2) ?_; (iterate 2 refine rq rfl rfl rfl rfl rfl ?_)
        refine rg_nil ?_; refine ⟨by kernel_rfl, ?_⟩; show HW _ _ _ _ _; refine hw_ret ?_; refine ⟨.inr rfl, ?_⟩
        exact ⟨_, _, _, _, rfl, (by (repeat' apply And.intro) <;> first | trivial | exact Nat.le_of_ble_eq_true rfl | rfl), rfl, (by (repeat' apply And.intro) <;> first | trivial | exact Nat.le_of_ble_eq_true rfl | rfl), ⟨ccb (by simp_all), trivial⟩⟩
      · skip
        have h2 := r2
        (iterate 9 refine rk rfl rfl rfl (gft r2) ?_); refine rq rfl rfl rfl rfl rfl ?_ (hp := r2); refine rq rfl rfl rfl rfl rfl ?_; refine rg_nil ?_; refine ⟨by kernel_rfl, ?_⟩; show HW _ _ _ _ _; refine hw_ret ?_
        refine ⟨.inr rfl, ?_⟩
        exact ⟨_, _, _, _, rfl, (by (repeat' apply And.intro) <;> first | trivial | exact Nat.le_of_ble_eq_true rfl | rfl), rfl, (by (repeat' apply And.intro) <;> first | trivial | exact Nat.le_of_ble_eq_true rfl | rfl), ⟨ccb (by simp_all), trivial⟩⟩
end Go.Hx
end
