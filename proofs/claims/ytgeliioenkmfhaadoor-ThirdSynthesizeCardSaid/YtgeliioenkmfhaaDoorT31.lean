/- A part of the proof: lemmas for the theorem of this claim, merged by a program of ours out of V30, Cs32. -/
import Derived.Test.YtgeliioenkmfhaaDoorT30
set_option linter.all false
section
namespace Go.Hx
open Go.Proofs
set_option maxRecDepth 100000
theorem good54 : goodFn Tryd.prog 54 := ⟨Tryd.f54, Tryd.func54, by kernel_rfl, by kernel_rfl⟩
theorem cR23Prime (l : List Fd) (p : AS) (hp : p.toNat < 65536) : HPure Tryd.prog 54 [pP (fdl l), pA p] (prOf [pA (primeS l p)]) := by
  refine hpure_of (nt := 46) Trydok Tryd.func54 rfl rfl (Nat.le_of_ble_eq_true rfl) ?_; refine hw_seq ?_; refine hw_region (E := TrydE) Trydok ?_; refine rq rfl rfl rfl rfl rfl ?_; refine rg_nil ?_; show HW _ _ _ _ _
  refine hw_seq ?_; refine hw_region (E := TrydE) Trydok ?_; refine rq rfl rfl rfl rfl rfl ?_; refine rg_nil ?_; show HW _ _ _ _ _; (iterate 2 refine hw_seq ?_); refine hw_region (E := TrydE) Trydok ?_
  refine rq rfl rfl rfl rfl rfl ?_; refine rg_nil ?_; show HW _ _ _ _ _; refine hw_block ?_
  refine hw_loopK (ι := Nat) ⟨[(0, some _), (1, some _)], []⟩ ⟨⟨⟨_, rfl, CoR.refl _⟩, ⟨_, rfl, CoR.refl _⟩, trivial⟩, trivial⟩ (fun i => ⟨[(5, some (vA (primeR l p i))), (6, some (.v (.one (.p (.raw (.int .u32 (i : Int)))))))], []⟩) (fun i => i ≤ p.toNat + 1) (fun i => p.toNat + 1 - i) (0) (Nat.zero_le _) ⟨⟨⟨_, rfl, (cor_i rfl)⟩, ⟨_, rfl, (by first | exact CoR.refl _ | exact coi (by omega) | exact cob (by simp_all))⟩, trivial⟩, trivial⟩ ?_
  rintro i hi
  have hsa : asI p = (p.toNat : Int) := rfl
  (iterate 2 refine hw_seq ?_); refine hw_region (E := TrydE) Trydok ?_; (iterate 3 refine rq rfl rfl rfl rfl rfl ?_); refine rg_nil ?_; show HW _ _ _ _ _; refine hw_cond _ rfl (fun r0 => ?_) (fun r0 => ?_)
  · skip
    have h0 := r0
    have h0 := of_decide_eq_true h0
    try simp only [Int.toNat_natCast] at h0
    refine hw_skip ?_; show HW _ _ _ _ _; refine hw_seq ?_; refine hw_block ?_; (iterate 2 refine hw_seq ?_); refine hw_region (E := TrydE) Trydok ?_; (iterate 5 refine rq rfl rfl rfl rfl rfl ?_)
    refine rsplit rfl rfl (fun r1 => ?_) (fun r1 => ?_)
    · skip
      have h1 := r1
      have h1 := of_decide_eq_false (not_t h1)
      try simp only [Int.toNat_natCast] at h1
      (iterate 5 refine rk rfl rfl rfl (gtf r1) ?_); refine rq rfl rfl rfl rfl rfl ?_ (hp := r1); refine rg_nil ?_; show HW _ _ _ _ _; refine hw_cond _ rfl (fun _ => ?_) (fun e => by cases e); refine hw_exit ?_; show HW _ _ _ _ _
      refine hw_region (E := TrydE) Trydok ?_; (iterate 3 refine rq rfl rfl rfl rfl rfl ?_); refine rg_nil ?_; refine ⟨i + 1, ?_, ?_, ?_⟩
      · show i + 1 ≤ _; omega
      · first | omega | (dsimp only; omega)
      · exact ⟨⟨⟨_, rfl, (by first | exact cor_i (pr_1 (by omega) (by assumption)) | exact cor_i (pr_2 (by assumption)) | exact cor_i (pr_t (by omega) (by assumption) (by assumption) (by assumption)) | exact cor_i (pr_3 (by assumption)))⟩, ⟨_, rfl, (by first | exact CoR.refl _ | exact coi (by omega) | exact cob (by simp_all))⟩, ⟨_, rfl, CoR.refl _⟩, ⟨_, rfl, CoR.refl _⟩, trivial⟩, trivial⟩
    · skip
      have h1 := r1
      have h1 := of_decide_eq_true (not_f h1)
      try simp only [Int.toNat_natCast] at h1
      (iterate 3 refine rq rfl rfl rfl rfl (gff r1) ?_); refine rc rfl rfl rfl rfl rfl rfl good55 (cRSk l (BitVec.ofNat 32 i) p) (⟨CoC.refl _, cci (set_u64 (by omega)), CoC.refl _, trivial⟩) rfl (gff r1) ?_
      refine rq rfl rfl rfl rfl (gff r1) ?_; refine rq rfl rfl rfl rfl rfl ?_; refine rg_nil ?_; show HW _ _ _ _ _; refine hw_cond _ rfl (fun r2 => ?_) (fun r2 => ?_)
      · skip
        have h2 := r2
        have h2 := bif_f r1 h2
        have h2 := not_t h2
        refine hw_exit ?_; show HW _ _ _ _ _; refine hw_region (E := TrydE) Trydok ?_; (iterate 3 refine rq rfl rfl rfl rfl rfl ?_); refine rg_nil ?_; refine ⟨i + 1, ?_, ?_, ?_⟩
        · show i + 1 ≤ _; omega
        · first | omega | (dsimp only; omega)
        · exact ⟨⟨⟨_, rfl, (by first | exact cor_i (pr_1 (by omega) (by assumption)) | exact cor_i (pr_2 (by assumption)) | exact cor_i (pr_t (by omega) (by assumption) (by assumption) (by assumption)) | exact cor_i (pr_3 (by assumption)))⟩, ⟨_, rfl, (by first | exact CoR.refl _ | exact coi (by omega) | exact cob (by simp_all))⟩, ⟨_, rfl, CoR.refl _⟩, ⟨_, rfl, CoR.refl _⟩, trivial⟩, trivial⟩
      · skip
        have h2 := r2
        have h2 := bif_f r1 h2
        have h2 := not_f h2
        refine hw_skip ?_; show HW _ _ _ _ _; refine hw_seq ?_; refine hw_region (E := TrydE) Trydok ?_; refine rq rfl rfl rfl rfl rfl ?_; refine rg_nil ?_; show HW _ _ _ _ _; (iterate 2 refine hw_seq ?_)
        refine hw_region (E := TrydE) Trydok ?_; refine rq rfl rfl rfl rfl rfl ?_; refine rg_nil ?_; show HW _ _ _ _ _; refine hw_block ?_
        refine hw_loopK (ι := Nat) ⟨[(0, some _), (1, some _), (5, some _), (6, some _)], []⟩ ⟨⟨⟨_, rfl, CoR.refl _⟩, ⟨_, rfl, CoR.refl _⟩, ⟨_, rfl, CoR.refl _⟩, ⟨_, rfl, CoR.refl _⟩, trivial⟩, trivial⟩ (fun a => ⟨[(7, some (vB (keyA l p (BitVec.ofNat 32 i) a))), (8, some (vI a))], []⟩) (fun a => a ≤ 32) (fun a => 32 - a) (0) (Nat.zero_le _) ⟨⟨⟨_, rfl, (cob rfl)⟩, ⟨_, rfl, (by first | exact CoR.refl _ | exact coi (by omega) | exact cob (by simp_all))⟩, trivial⟩, trivial⟩ ?_
        rintro a ha
        (iterate 2 refine hw_seq ?_); refine hw_region (E := TrydE) Trydok ?_; (iterate 2 refine rq rfl rfl rfl rfl rfl ?_); refine rg_nil ?_; show HW _ _ _ _ _; refine hw_cond _ rfl (fun r3 => ?_) (fun r3 => ?_)
        · skip
          have h3 := r3
          have h3 := of_decide_eq_true h3
          try simp only [Int.toNat_natCast] at h3
          refine hw_skip ?_; show HW _ _ _ _ _; refine hw_seq ?_; refine hw_block ?_; refine hw_seq ?_; refine hw_region (E := TrydE) Trydok ?_; (iterate 2 refine rq rfl rfl rfl rfl rfl ?_)
          refine rc rfl rfl rfl rfl rfl rfl good96 (cHas (BitVec.ofNat 32 i) a) (⟨cci (set_u64 (by omega)), CoC.refl _, trivial⟩) rfl rfl ?_; refine rq rfl rfl rfl rfl rfl ?_; refine rsplit rfl rfl (fun r4 => ?_) (fun r4 => ?_)
          · skip
            have h4 := r4
            (iterate 6 refine rq rfl rfl rfl rfl (gtt r4) ?_)
            refine rc rfl rfl rfl rfl rfl rfl good55 (cRSk l (noA (BitVec.ofNat 32 i) a) p) (⟨CoC.refl _, cci (by rw [set_u64 (n := i) (by omega)]; exact noA_v _ _ rfl), CoC.refl _, trivial⟩) rfl (gtt r4) ?_
            refine rq rfl rfl rfl rfl rfl ?_; refine rg_nil ?_; show HW _ _ _ _ _; refine hw_cond _ rfl (fun r5 => ?_) (fun r5 => ?_)
            · skip
              have h5 := r5
              have h5 := bif_t r4 h5
              refine hw_region (E := TrydE) Trydok ?_; refine rq rfl rfl rfl rfl rfl ?_; refine rg_nil ?_; show HW _ _ _ _ _; refine hw_region (E := TrydE) Trydok ?_; (iterate 3 refine rq rfl rfl rfl rfl rfl ?_); refine rg_nil ?_
              refine ⟨a + 1, ?_, ?_, ?_⟩
              · show a + 1 ≤ _; omega
              · first | omega | (dsimp only; omega)
              · exact ⟨⟨⟨_, rfl, (cob (by first | exact (keyA_t (by omega) (by assumption) (by assumption)).symm | exact (keyA_f1 (by omega) (by assumption)).symm | exact (keyA_f2 (by assumption)).symm))⟩, ⟨_, rfl, (by first | exact CoR.refl _ | exact coi (by omega) | exact cob (by simp_all))⟩, ⟨_, rfl, CoR.refl _⟩, ⟨_, rfl, CoR.refl _⟩, ⟨_, rfl, CoR.refl _⟩, ⟨_, rfl, CoR.refl _⟩, trivial⟩, trivial⟩
            · skip
              have h5 := r5
              have h5 := bif_t r4 h5
              refine hw_skip ?_; show HW _ _ _ _ _; refine hw_region (E := TrydE) Trydok ?_; (iterate 3 refine rq rfl rfl rfl rfl rfl ?_); refine rg_nil ?_; refine ⟨a + 1, ?_, ?_, ?_⟩
              · show a + 1 ≤ _; omega
              · first | omega | (dsimp only; omega)
              · exact ⟨⟨⟨_, rfl, (cob (by first | exact (keyA_t (by omega) (by assumption) (by assumption)).symm | exact (keyA_f1 (by omega) (by assumption)).symm | exact (keyA_f2 (by assumption)).symm))⟩, ⟨_, rfl, (by first | exact CoR.refl _ | exact coi (by omega) | exact cob (by simp_all))⟩, ⟨_, rfl, CoR.refl _⟩, ⟨_, rfl, CoR.refl _⟩, ⟨_, rfl, CoR.refl _⟩, ⟨_, rfl, CoR.refl _⟩, trivial⟩, trivial⟩
          · skip
            have h4 := r4
            (iterate 7 refine rk rfl rfl rfl (gft r4) ?_); refine rq rfl rfl rfl rfl rfl ?_ (hp := r4); refine rg_nil ?_; show HW _ _ _ _ _; refine hw_cond _ rfl (fun e => by cases e) (fun _ => ?_); refine hw_skip ?_
            show HW _ _ _ _ _; refine hw_region (E := TrydE) Trydok ?_; (iterate 3 refine rq rfl rfl rfl rfl rfl ?_); refine rg_nil ?_; refine ⟨a + 1, ?_, ?_, ?_⟩
            · show a + 1 ≤ _; omega
            · first | omega | (dsimp only; omega)
            · exact ⟨⟨⟨_, rfl, (cob (by first | exact (keyA_t (by omega) (by assumption) (by assumption)).symm | exact (keyA_f1 (by omega) (by assumption)).symm | exact (keyA_f2 (by assumption)).symm))⟩, ⟨_, rfl, (by first | exact CoR.refl _ | exact coi (by omega) | exact cob (by simp_all))⟩, ⟨_, rfl, CoR.refl _⟩, ⟨_, rfl, CoR.refl _⟩, ⟨_, rfl, CoR.refl _⟩, ⟨_, rfl, CoR.refl _⟩, trivial⟩, trivial⟩
        · skip
          have h3 := r3
          have h3 := of_decide_eq_false h3
          try simp only [Int.toNat_natCast] at h3
          obtain rfl : a = 32 := by omega
          refine hw_exit ?_; show HW _ _ _ _ _; refine hw_seq ?_; refine hw_region (E := TrydE) Trydok ?_; refine rq rfl rfl rfl rfl rfl ?_; refine rg_nil ?_; show HW _ _ _ _ _; refine hw_cond _ rfl (fun r6 => ?_) (fun r6 => ?_)
          · skip
            have h6 := r6
            refine hw_region (E := TrydE) Trydok ?_; (iterate 4 refine rq rfl rfl rfl rfl rfl ?_); refine rg_nil ?_; show HW _ _ _ _ _; refine hw_region (E := TrydE) Trydok ?_; (iterate 3 refine rq rfl rfl rfl rfl rfl ?_)
            refine rg_nil ?_; refine ⟨i + 1, ?_, ?_, ?_⟩
            · show i + 1 ≤ _; omega
            · first | omega | (dsimp only; omega)
            · exact ⟨⟨⟨_, rfl, (by first | exact cor_i (pr_1 (by omega) (by assumption)) | exact cor_i (pr_2 (by assumption)) | exact cor_i (pr_t (by omega) (by assumption) (by assumption) (by assumption)) | exact cor_i (pr_3 (by assumption)))⟩, ⟨_, rfl, (by first | exact CoR.refl _ | exact coi (by omega) | exact cob (by simp_all))⟩, ⟨_, rfl, CoR.refl _⟩, ⟨_, rfl, CoR.refl _⟩, trivial⟩, trivial⟩
          · skip
            have h6 := r6
            refine hw_skip ?_; show HW _ _ _ _ _; refine hw_region (E := TrydE) Trydok ?_; (iterate 3 refine rq rfl rfl rfl rfl rfl ?_); refine rg_nil ?_; refine ⟨i + 1, ?_, ?_, ?_⟩
            · show i + 1 ≤ _; omega
            · first | omega | (dsimp only; omega)
            · exact ⟨⟨⟨_, rfl, (by first | exact cor_i (pr_1 (by omega) (by assumption)) | exact cor_i (pr_2 (by assumption)) | exact cor_i (pr_t (by omega) (by assumption) (by assumption) (by assumption)) | exact cor_i (pr_3 (by assumption)))⟩, ⟨_, rfl, (by first | exact CoR.refl _ | exact coi (by omega) | exact cob (by simp_all))⟩, ⟨_, rfl, CoR.refl _⟩, ⟨_, rfl, CoR.refl _⟩, trivial⟩, trivial⟩
  · skip
    have h0 := r0
    have h0 := of_decide_eq_false h0
    try simp only [Int.toNat_natCast] at h0
    have hie : i = p.toNat + 1 := by omega
    refine hw_exit ?_; show HW _ _ _ _ _; refine hw_seq ?_; refine hw_region (E := TrydE) Trydok ?_; (iterate 2 refine rq rfl rfl rfl rfl rfl ?_); refine rg_nil ?_; show HW _ _ _ _ _; refine hw_ret ?_; refine ⟨.inr rfl, ?_⟩
    exact ⟨_, _, _, _, rfl, (by (repeat' apply And.intro) <;> first | trivial | exact Nat.le_of_ble_eq_true rfl | rfl), rfl, (by (repeat' apply And.intro) <;> first | trivial | exact Nat.le_of_ble_eq_true rfl | rfl), ⟨cci (congrArg asI (primeR_end hie)), trivial⟩⟩
theorem good44 : goodFn Tryd.prog 44 := ⟨Tryd.f44, Tryd.func44, by kernel_rfl, by kernel_rfl⟩
theorem cR23local (l : List Fd) (p : AS) (hp : p.toNat < 65536) : HPure Tryd.prog 44 [pP (fdl l), pA p] (prOf [pB (localS l p)]) := by
  refine hpure_of (nt := 38) Trydok Tryd.func44 rfl rfl (Nat.le_of_ble_eq_true rfl) ?_; refine hw_seq ?_; refine hw_region (E := TrydE) Trydok ?_; refine rq rfl rfl rfl rfl rfl ?_; refine rg_nil ?_; show HW _ _ _ _ _
  refine hw_seq ?_; refine hw_region (E := TrydE) Trydok ?_; (iterate 2 refine rq rfl rfl rfl rfl rfl ?_); refine rc rfl rfl rfl rfl rfl rfl good54 (cR23Prime l p hp) (CoL.refl _) rfl rfl ?_; refine rq rfl rfl rfl rfl rfl ?_
  refine rg_nil ?_; show HW _ _ _ _ _; (iterate 2 refine hw_seq ?_); refine hw_region (E := TrydE) Trydok ?_; refine rq rfl rfl rfl rfl rfl ?_; refine rg_nil ?_; show HW _ _ _ _ _; refine hw_block ?_
  refine hw_loopK (ι := Nat) ⟨[(0, some _), (1, some _), (5, some _)], []⟩ ⟨⟨⟨_, rfl, CoR.refl _⟩, ⟨_, rfl, CoR.refl _⟩, ⟨_, rfl, CoR.refl _⟩, trivial⟩, trivial⟩ (fun i => ⟨[(6, some (.v (.one (.p (.raw (.int .u32 (i : Int)))))))], []⟩) (fun i => i ≤ p.toNat + 1 ∧ ∀ j, j < i → (decide (sub (BitVec.ofNat 32 j) p) && badL l p (BitVec.ofNat 32 j)) = false) (fun i => p.toNat + 1 - i) (0) (⟨Nat.zero_le _, all_zero⟩) ⟨⟨⟨_, rfl, (by first | exact CoR.refl _ | exact coi (by omega) | exact cob (by simp_all))⟩, trivial⟩, trivial⟩ ?_
  rintro i ⟨hi, hI⟩
  have hsa : asI p = (p.toNat : Int) := rfl
  (iterate 2 refine hw_seq ?_); refine hw_region (E := TrydE) Trydok ?_; (iterate 3 refine rq rfl rfl rfl rfl rfl ?_); refine rg_nil ?_; show HW _ _ _ _ _; refine hw_cond _ rfl (fun r0 => ?_) (fun r0 => ?_)
  · skip
    have h0 := r0
    have h0 := of_decide_eq_true h0
    try simp only [Int.toNat_natCast] at h0
    refine hw_skip ?_; show HW _ _ _ _ _; refine hw_seq ?_; refine hw_block ?_; refine hw_seq ?_; refine hw_region (E := TrydE) Trydok ?_; (iterate 5 refine rq rfl rfl rfl rfl rfl ?_)
    refine rsplit rfl rfl (fun r1 => ?_) (fun r1 => ?_)
    · skip
      have h1 := r1
      have h1 := of_decide_eq_true h1
      try simp only [Int.toNat_natCast] at h1
      (iterate 3 refine rq rfl rfl rfl rfl (gtt r1) ?_); refine rc rfl rfl rfl rfl rfl rfl good55 (cRSk l (BitVec.ofNat 32 i) p) (⟨CoC.refl _, cci (set_u64 (by omega)), CoC.refl _, trivial⟩) rfl (gtt r1) ?_
      refine rq rfl rfl rfl rfl (gtt r1) ?_; (iterate 2 refine rq rfl rfl rfl rfl rfl ?_); refine rsplit rfl rfl (fun r2 => ?_) (fun r2 => ?_)
      · skip
        have h2 := r2
        have h2 := bif_t r1 h2
        have h2 := not_t h2
        (iterate 2 refine rq rfl rfl rfl rfl (gtt r2) ?_); refine rc rfl rfl rfl rfl rfl rfl good49 (cRClose l (BitVec.ofNat 32 i)) (⟨CoC.refl _, cci (set_u64 (by omega)), trivial⟩) rfl (gtt r2) ?_
        (iterate 7 refine rq rfl rfl rfl rfl (gtt r2) ?_); refine rq rfl rfl rfl rfl rfl ?_; refine rg_nil ?_; show HW _ _ _ _ _; refine hw_cond _ rfl (fun r3 => ?_) (fun r3 => ?_)
        · skip
          have h3 := r3
          have h3 := bif_t r2 h3
          have h3 := of_decide_eq_false (not_t h3)
          try simp only [Int.toNat_natCast] at h3
          refine hw_seq ?_; refine hw_region (E := TrydE) Trydok ?_; refine rq rfl rfl rfl rfl rfl ?_; refine rg_nil ?_; show HW _ _ _ _ _; refine hw_ret ?_; refine ⟨.inr rfl, ?_⟩
          exact ⟨_, _, _, _, rfl, (by (repeat' apply And.intro) <;> first | trivial | exact Nat.le_of_ble_eq_true rfl | rfl), rfl, (by (repeat' apply And.intro) <;> first | trivial | exact Nat.le_of_ble_eq_true rfl | rfl), ⟨ccb (local_f (x := BitVec.ofNat 32 i) ((num_sub (i := i) (by omega)).1 (by assumption)) (bad_t (by assumption) (by rw [← set_u64 (n := i) (by omega)]; assumption))).symm, trivial⟩⟩
        · skip
          have h3 := r3
          have h3 := bif_t r2 h3
          have h3 := of_decide_eq_true (not_f h3)
          try simp only [Int.toNat_natCast] at h3
          refine hw_skip ?_; show HW _ _ _ _ _; refine hw_region (E := TrydE) Trydok ?_; (iterate 3 refine rq rfl rfl rfl rfl rfl ?_); refine rg_nil ?_; refine ⟨i + 1, ?_, ?_, ?_⟩
          · exact ⟨by show i + 1 ≤ _; omega, all_succ hI (by first | exact badN_1 (by omega) (by assumption) | exact badN_2 (bad_f1 (by assumption)) | exact badN_2 (bad_f2 (by rw [← set_u64 (n := i) (by omega)]; assumption)))⟩
          · first | omega | (dsimp only; omega)
          · exact ⟨⟨⟨_, rfl, (by first | exact CoR.refl _ | exact coi (by omega) | exact cob (by simp_all))⟩, ⟨_, rfl, CoR.refl _⟩, ⟨_, rfl, CoR.refl _⟩, ⟨_, rfl, CoR.refl _⟩, trivial⟩, trivial⟩
      · skip
        have h2 := r2
        have h2 := bif_t r1 h2
        have h2 := not_f h2
        (iterate 10 refine rk rfl rfl rfl (gft r2) ?_); refine rq rfl rfl rfl rfl rfl ?_ (hp := r2); refine rg_nil ?_; show HW _ _ _ _ _; refine hw_cond _ rfl (fun e => by cases e) (fun _ => ?_); refine hw_skip ?_; show HW _ _ _ _ _
        refine hw_region (E := TrydE) Trydok ?_; (iterate 3 refine rq rfl rfl rfl rfl rfl ?_); refine rg_nil ?_; refine ⟨i + 1, ?_, ?_, ?_⟩
        · exact ⟨by show i + 1 ≤ _; omega, all_succ hI (by first | exact badN_1 (by omega) (by assumption) | exact badN_2 (bad_f1 (by assumption)) | exact badN_2 (bad_f2 (by rw [← set_u64 (n := i) (by omega)]; assumption)))⟩
        · first | omega | (dsimp only; omega)
        · exact ⟨⟨⟨_, rfl, (by first | exact CoR.refl _ | exact coi (by omega) | exact cob (by simp_all))⟩, ⟨_, rfl, CoR.refl _⟩, ⟨_, rfl, CoR.refl _⟩, ⟨_, rfl, CoR.refl _⟩, trivial⟩, trivial⟩
    · skip
      have h1 := r1
      have h1 := of_decide_eq_false h1
      try simp only [Int.toNat_natCast] at h1
      (iterate 5 refine rk rfl rfl rfl (gft r1) ?_); refine rq rfl rfl rfl rfl rfl ?_ (hp := r1); refine rq rfl rfl rfl rfl rfl ?_; (iterate 10 refine rk rfl rfl rfl rfl ?_); refine rq rfl rfl rfl rfl rfl ?_; refine rg_nil ?_
      show HW _ _ _ _ _; refine hw_cond _ rfl (fun e => by cases e) (fun _ => ?_); refine hw_skip ?_; show HW _ _ _ _ _; refine hw_region (E := TrydE) Trydok ?_; (iterate 3 refine rq rfl rfl rfl rfl rfl ?_); refine rg_nil ?_
      refine ⟨i + 1, ?_, ?_, ?_⟩
      · exact ⟨by show i + 1 ≤ _; omega, all_succ hI (by first | exact badN_1 (by omega) (by assumption) | exact badN_2 (bad_f1 (by assumption)) | exact badN_2 (bad_f2 (by rw [← set_u64 (n := i) (by omega)]; assumption)))⟩
      · first | omega | (dsimp only; omega)
      · exact ⟨⟨⟨_, rfl, (by first | exact CoR.refl _ | exact coi (by omega) | exact cob (by simp_all))⟩, ⟨_, rfl, CoR.refl _⟩, ⟨_, rfl, CoR.refl _⟩, ⟨_, rfl, CoR.refl _⟩, trivial⟩, trivial⟩
  · skip
    have h0 := r0
    have h0 := of_decide_eq_false h0
    try simp only [Int.toNat_natCast] at h0
    have hie : i = p.toNat + 1 := by omega
    refine hw_exit ?_; show HW _ _ _ _ _; refine hw_seq ?_; refine hw_region (E := TrydE) Trydok ?_; refine rq rfl rfl rfl rfl rfl ?_; refine rg_nil ?_; show HW _ _ _ _ _; refine hw_ret ?_; refine ⟨.inr rfl, ?_⟩
    exact ⟨_, _, _, _, rfl, (by (repeat' apply And.intro) <;> first | trivial | exact Nat.le_of_ble_eq_true rfl | rfl), rfl, (by (repeat' apply And.intro) <;> first | trivial | exact Nat.le_of_ble_eq_true rfl | rfl), ⟨ccb (local_n hie hI).symm, trivial⟩⟩
theorem good16 : goodFn Tryd.prog 16 := ⟨Tryd.f16, Tryd.func16, by kernel_rfl, by kernel_rfl⟩
theorem cR23Is (n : Int) (l : List Fd) : HPure Tryd.prog 16 [pI n, pP (fdl l)] (prOf [pB (decide (vErr n l = 0) && localS l (fullI n)), pI (vErr n l)]) := by
  refine hpure_of (nt := 17) Trydok Tryd.func16 rfl rfl (Nat.le_of_ble_eq_true rfl) ?_; refine hw_seq ?_; refine hw_region (E := TrydE) Trydok ?_; (iterate 2 refine rq rfl rfl rfl rfl rfl ?_); refine rg_nil ?_; show HW _ _ _ _ _
  (iterate 2 refine hw_seq ?_); refine hw_region (E := TrydE) Trydok ?_; (iterate 2 refine rq rfl rfl rfl rfl rfl ?_); refine rc rfl rfl rfl rfl rfl rfl good19 (cRValid n l) (CoL.refl _) rfl rfl ?_; refine rq rfl rfl rfl rfl rfl ?_
  refine rg_nil ?_; show HW _ _ _ _ _; refine hw_seq ?_; refine hw_region (E := TrydE) Trydok ?_; (iterate 2 refine rq rfl rfl rfl rfl rfl ?_); refine rg_nil ?_; show HW _ _ _ _ _; refine hw_cond _ rfl (fun r0 => ?_) (fun r0 => ?_)
  · skip
    have h0 := r0
    have h0 := of_decide_eq_false (not_t h0)
    try simp only [Int.toNat_natCast] at h0
    refine hw_seq ?_; refine hw_region (E := TrydE) Trydok ?_; (iterate 3 refine rq rfl rfl rfl rfl rfl ?_); refine rg_nil ?_; show HW _ _ _ _ _; refine hw_ret ?_; refine ⟨.inr rfl, ?_⟩
    exact ⟨_, _, _, _, rfl, (by (repeat' apply And.intro) <;> first | trivial | exact Nat.le_of_ble_eq_true rfl | rfl), rfl, (by (repeat' apply And.intro) <;> first | trivial | exact Nat.le_of_ble_eq_true rfl | rfl), ⟨ccb (by rw [decide_eq_false h0]; rfl), CoC.refl _, trivial⟩⟩
  · skip
    have h0 := r0
    have h0 := of_decide_eq_true (not_f h0)
    try simp only [Int.toNat_natCast] at h0
    refine hw_skip ?_; show HW _ _ _ _ _; refine hw_seq ?_
    have hv := vErr_ok h0
    have hfn := full_n hv.1 hv.2.1
    have hfe : asI (fullI n) = ((fullI n).toNat : Int) := rfl
    refine hw_region (E := TrydE) Trydok ?_; (iterate 2 refine rq rfl rfl rfl rfl rfl ?_); refine rc rfl rfl rfl rfl rfl rfl good28 (cRFull n) (CoL.refl _) rfl rfl ?_
    refine rc rfl rfl rfl rfl rfl rfl good44 (cR23local l (fullI n) (by omega)) (CoL.refl _) rfl rfl ?_; (iterate 2 refine rq rfl rfl rfl rfl rfl ?_); refine rg_nil ?_; show HW _ _ _ _ _; refine hw_ret ?_; refine ⟨.inr rfl, ?_⟩
    exact ⟨_, _, _, _, rfl, (by (repeat' apply And.intro) <;> first | trivial | exact Nat.le_of_ble_eq_true rfl | rfl), rfl, (by (repeat' apply And.intro) <;> first | trivial | exact Nat.le_of_ble_eq_true rfl | rfl), ⟨ccb (by rw [decide_eq_true h0]; rfl), cci h0.symm, trivial⟩⟩
theorem good42 : goodFn Tryd.prog 42 := ⟨Tryd.f42, Tryd.func42, by kernel_rfl, by kernel_rfl⟩
theorem cTLocal (n : Int) (l : List Fd) (p : AS) : HPure Tryd.prog 42 [pI n, pP (fdl l), pA p] (prOf [pB (locB n l p), pI (locE n l p)]) := by
  refine hpure_of (nt := 50) Trydok Tryd.func42 rfl rfl (Nat.le_of_ble_eq_true rfl) ?_; refine hw_seq ?_; refine hw_region (E := TrydE) Trydok ?_; (iterate 2 refine rq rfl rfl rfl rfl rfl ?_); refine rg_nil ?_; show HW _ _ _ _ _
  (iterate 2 refine hw_seq ?_); refine hw_region (E := TrydE) Trydok ?_; (iterate 2 refine rq rfl rfl rfl rfl rfl ?_); refine rc rfl rfl rfl rfl rfl rfl good65 (cValid n l) (CoL.refl _) rfl rfl ?_; refine rq rfl rfl rfl rfl rfl ?_
  refine rg_nil ?_; show HW _ _ _ _ _; refine hw_seq ?_; refine hw_region (E := TrydE) Trydok ?_; (iterate 2 refine rq rfl rfl rfl rfl rfl ?_); refine rg_nil ?_; show HW _ _ _ _ _; refine hw_cond _ rfl (fun r0 => ?_) (fun r0 => ?_)
  · skip
    have h0 := r0
    have h0 := of_decide_eq_false (not_t h0)
    try simp only [Int.toNat_natCast] at h0
    refine hw_seq ?_; refine hw_region (E := TrydE) Trydok ?_; (iterate 3 refine rq rfl rfl rfl rfl rfl ?_); refine rg_nil ?_; show HW _ _ _ _ _; refine hw_ret ?_; refine ⟨.inr rfl, ?_⟩
    have he := loc_1 (p := p) h0
    exact ⟨_, _, _, _, rfl, (by (repeat' apply And.intro) <;> first | trivial | exact Nat.le_of_ble_eq_true rfl | rfl), rfl, (by (repeat' apply And.intro) <;> first | trivial | exact Nat.le_of_ble_eq_true rfl | rfl), ⟨ccb he.2.symm, cci he.1.symm, trivial⟩⟩
  · skip
    have h0 := r0
    have h0 := of_decide_eq_true (not_f h0)
    try simp only [Int.toNat_natCast] at h0
    refine hw_skip ?_; show HW _ _ _ _ _; (iterate 2 refine hw_seq ?_)
    have hv := vErr_ok h0
    have hsh := shr_v (s := p) (n := n) hv.1 hv.2.1
    refine hw_region (E := TrydE) Trydok ?_; (iterate 4 refine rq rfl rfl rfl rfl rfl ?_); refine rg_nil ?_; show HW _ _ _ _ _; refine hw_cond _ rfl (fun r1 => ?_) (fun r1 => ?_)
    · skip
      have h1 := r1
      have h1 := of_decide_eq_false (not_t h1)
      try simp only [Int.toNat_natCast] at h1
      refine hw_seq ?_; refine hw_region (E := TrydE) Trydok ?_; (iterate 2 refine rq rfl rfl rfl rfl rfl ?_); refine rg_nil ?_; show HW _ _ _ _ _; refine hw_ret ?_; refine ⟨.inr rfl, ?_⟩
      have he := loc_2 h0 (fun e => h1 (hsh.2 e))
      exact ⟨_, _, _, _, rfl, (by (repeat' apply And.intro) <;> first | trivial | exact Nat.le_of_ble_eq_true rfl | rfl), rfl, (by (repeat' apply And.intro) <;> first | trivial | exact Nat.le_of_ble_eq_true rfl | rfl), ⟨ccb he.2.symm, cci he.1.symm, trivial⟩⟩
    · skip
      have h1 := r1
      have h1 := of_decide_eq_true (not_f h1)
      try simp only [Int.toNat_natCast] at h1
      refine hw_skip ?_; show HW _ _ _ _ _; refine hw_seq ?_; refine hw_region (E := TrydE) Trydok ?_; (iterate 2 refine rq rfl rfl rfl rfl rfl ?_); refine rc rfl rfl rfl rfl rfl rfl good85 (cTPrime l p) (CoL.refl _) rfl rfl ?_
      refine rq rfl rfl rfl rfl rfl ?_; refine rg_nil ?_; show HW _ _ _ _ _; (iterate 2 refine hw_seq ?_)
      have htl := tsubs_len p
      refine hw_region (E := TrydE) Trydok ?_; refine rq rfl rfl rfl rfl rfl ?_; refine rc rfl rfl rfl rfl rfl rfl good86 (cTSubs p) (CoL.refl _) rfl rfl ?_; (iterate 2 refine rq rfl rfl rfl rfl rfl ?_); refine rg_nil ?_
      show HW _ _ _ _ _; refine hw_block ?_
      refine hw_loopK (ι := Nat) ⟨[(1, some _), (2, some _), (9, some _), (27, some _), (28, some _)], []⟩ ⟨⟨⟨_, rfl, CoR.refl _⟩, ⟨_, rfl, CoR.refl _⟩, ⟨_, rfl, CoR.refl _⟩, ⟨_, rfl, CoR.refl _⟩, ⟨_, rfl, CoR.refl _⟩, trivial⟩, trivial⟩ (fun i => ⟨[(29, some (vI i))], []⟩) (fun i => i ≤ (tsubs p).length ∧ (∀ j, j < i → badL l p ((tsubs p).getD j default) = false)) (fun i => (tsubs p).length - i) (0) (⟨Nat.zero_le _, all_zero⟩) ⟨⟨⟨_, rfl, (by first | exact CoR.refl _ | exact coi (by omega) | exact cob (by simp_all))⟩, trivial⟩, trivial⟩ ?_
      rintro i ⟨hi, hI⟩
      refine hw_seq ?_; refine hw_region (E := TrydE) Trydok ?_; refine rq rfl rfl rfl rfl rfl ?_; refine rg_nil ?_; show HW _ _ _ _ _; refine hw_seq ?_; refine hw_cond _ rfl (fun r2 => ?_) (fun r2 => ?_)
      · skip
        have h2 := r2
        have h2 := of_decide_eq_true h2
        try simp only [Int.toNat_natCast] at h2
        refine hw_skip ?_; show HW _ _ _ _ _; refine hw_seq ?_; refine hw_block ?_; refine hw_seq ?_; refine hw_region (E := TrydE) Trydok ?_; (iterate 3 refine rq rfl rfl rfl rfl rfl ?_); refine rg_nil ?_; show HW _ _ _ _ _
        refine hw_seq ?_; refine hw_region (E := TrydE) Trydok ?_; (iterate 2 refine rq rfl rfl rfl rfl rfl ?_); refine rc rfl rfl rfl rfl rfl rfl good46 (cClose l ((tsubs p).getD i default)) (CoL.refl _) rfl rfl ?_
        (iterate 3 refine rq rfl rfl rfl rfl rfl ?_); refine rg_nil ?_; show HW _ _ _ _ _; refine hw_seq ?_; refine hw_region (E := TrydE) Trydok ?_; (iterate 4 refine rq rfl rfl rfl rfl rfl ?_)
        refine rsplit rfl rfl (fun r3 => ?_) (fun r3 => ?_)
        · skip
          have h3 := r3
          have h3 := of_decide_eq_false (not_t h3)
          try simp only [Int.toNat_natCast] at h3
          (iterate 6 refine rq rfl rfl rfl rfl (gtt r3) ?_); refine rq rfl rfl rfl rfl rfl ?_; refine rg_nil ?_; show HW _ _ _ _ _; refine hw_cond _ rfl (fun r4 => ?_) (fun r4 => ?_)
          · skip
            have h4 := r4
            have h4 := bif_t r3 h4
            have h4 := of_decide_eq_false (not_t h4)
            try simp only [Int.toNat_natCast] at h4
            refine hw_seq ?_; refine hw_region (E := TrydE) Trydok ?_; (iterate 2 refine rq rfl rfl rfl rfl rfl ?_); refine rg_nil ?_; show HW _ _ _ _ _; refine hw_ret ?_; refine ⟨.inr rfl, ?_⟩
            have he := loc_3 h0 (hsh.1 h1)
            have hb := local_f (mem_tsubs.1 (getD_mem (l := tsubs p) (j := i) (by omega))) (bad_t (sup_f h3) h4)
            exact ⟨_, _, _, _, rfl, (by (repeat' apply And.intro) <;> first | trivial | exact Nat.le_of_ble_eq_true rfl | rfl), rfl, (by (repeat' apply And.intro) <;> first | trivial | exact Nat.le_of_ble_eq_true rfl | rfl), ⟨ccb (by rw [he.2, hb]), cci he.1.symm, trivial⟩⟩
          · skip
            have h4 := r4
            have h4 := bif_t r3 h4
            have h4 := of_decide_eq_true (not_f h4)
            try simp only [Int.toNat_natCast] at h4
            refine hw_skip ?_; show HW _ _ _ _ _; refine hw_region (E := TrydE) Trydok ?_; (iterate 2 refine rq rfl rfl rfl rfl rfl ?_); refine rg_nil ?_; refine ⟨i + 1, ?_, ?_, ?_⟩
            · exact ⟨by show i + 1 ≤ _; omega, all_succ hI (by first | exact bad_f1 (sup_t h3) | exact bad_f2 h4)⟩
            · first | omega | (dsimp only; omega)
            · exact ⟨⟨⟨_, rfl, (by first | exact CoR.refl _ | exact coi (by omega) | exact cob (by simp_all))⟩, ⟨_, rfl, CoR.refl _⟩, ⟨_, rfl, CoR.refl _⟩, ⟨_, rfl, CoR.refl _⟩, ⟨_, rfl, CoR.refl _⟩, ⟨_, rfl, CoR.refl _⟩, trivial⟩, trivial⟩
        · skip
          have h3 := r3
          have h3 := of_decide_eq_true (not_f h3)
          try simp only [Int.toNat_natCast] at h3
          (iterate 6 refine rk rfl rfl rfl (gft r3) ?_); refine rq rfl rfl rfl rfl rfl ?_ (hp := r3); refine rg_nil ?_; show HW _ _ _ _ _; refine hw_cond _ rfl (fun e => by cases e) (fun _ => ?_); refine hw_skip ?_
          show HW _ _ _ _ _; refine hw_region (E := TrydE) Trydok ?_; (iterate 2 refine rq rfl rfl rfl rfl rfl ?_); refine rg_nil ?_; refine ⟨i + 1, ?_, ?_, ?_⟩
          · exact ⟨by show i + 1 ≤ _; omega, all_succ hI (by first | exact bad_f1 (sup_t h3) | exact bad_f2 h4)⟩
          · first | omega | (dsimp only; omega)
          · exact ⟨⟨⟨_, rfl, (by first | exact CoR.refl _ | exact coi (by omega) | exact cob (by simp_all))⟩, ⟨_, rfl, CoR.refl _⟩, ⟨_, rfl, CoR.refl _⟩, ⟨_, rfl, CoR.refl _⟩, ⟨_, rfl, CoR.refl _⟩, ⟨_, rfl, CoR.refl _⟩, trivial⟩, trivial⟩
      · skip
        have h2 := r2
        have h2 := of_decide_eq_false h2
        try simp only [Int.toNat_natCast] at h2
        obtain rfl : i = (tsubs p).length := by omega
        refine hw_exit ?_; show HW _ _ _ _ _; refine hw_seq ?_; refine hw_region (E := TrydE) Trydok ?_; (iterate 2 refine rq rfl rfl rfl rfl rfl ?_); refine rg_nil ?_; show HW _ _ _ _ _; refine hw_ret ?_; refine ⟨.inr rfl, ?_⟩
        have he := loc_3 h0 (hsh.1 h1)
        have hb := local_ts hI
        exact ⟨_, _, _, _, rfl, (by (repeat' apply And.intro) <;> first | trivial | exact Nat.le_of_ble_eq_true rfl | rfl), rfl, (by (repeat' apply And.intro) <;> first | trivial | exact Nat.le_of_ble_eq_true rfl | rfl), ⟨ccb (by rw [he.2, hb]), cci he.1.symm, trivial⟩⟩
theorem good43 : goodFn Tryd.prog 43 := ⟨Tryd.f43, Tryd.func43, by kernel_rfl, by kernel_rfl⟩
theorem cR23Local (n : Int) (l : List Fd) (p : AS) : HPure Tryd.prog 43 [pI n, pP (fdl l), pA p] (prOf [pB (locB n l p), pI (locE n l p)]) := by
  refine hpure_of (nt := 23) Trydok Tryd.func43 rfl rfl (Nat.le_of_ble_eq_true rfl) ?_; refine hw_seq ?_; refine hw_region (E := TrydE) Trydok ?_; (iterate 2 refine rq rfl rfl rfl rfl rfl ?_); refine rg_nil ?_; show HW _ _ _ _ _
  (iterate 2 refine hw_seq ?_); refine hw_region (E := TrydE) Trydok ?_; (iterate 2 refine rq rfl rfl rfl rfl rfl ?_); refine rc rfl rfl rfl rfl rfl rfl good19 (cRValid n l) (CoL.refl _) rfl rfl ?_; refine rq rfl rfl rfl rfl rfl ?_
  refine rg_nil ?_; show HW _ _ _ _ _; refine hw_seq ?_; refine hw_region (E := TrydE) Trydok ?_; (iterate 2 refine rq rfl rfl rfl rfl rfl ?_); refine rg_nil ?_; show HW _ _ _ _ _; refine hw_cond _ rfl (fun r0 => ?_) (fun r0 => ?_)
  · skip
    have h0 := r0
    have h0 := of_decide_eq_false (not_t h0)
    try simp only [Int.toNat_natCast] at h0
    refine hw_seq ?_; refine hw_region (E := TrydE) Trydok ?_; (iterate 3 refine rq rfl rfl rfl rfl rfl ?_); refine rg_nil ?_; show HW _ _ _ _ _; refine hw_ret ?_; refine ⟨.inr rfl, ?_⟩
    have he := loc_1 (p := p) h0
    exact ⟨_, _, _, _, rfl, (by (repeat' apply And.intro) <;> first | trivial | exact Nat.le_of_ble_eq_true rfl | rfl), rfl, (by (repeat' apply And.intro) <;> first | trivial | exact Nat.le_of_ble_eq_true rfl | rfl), ⟨ccb he.2.symm, cci he.1.symm, trivial⟩⟩
  · skip
    have h0 := r0
    have h0 := of_decide_eq_true (not_f h0)
    try simp only [Int.toNat_natCast] at h0
    refine hw_skip ?_; show HW _ _ _ _ _; (iterate 2 refine hw_seq ?_)
    have hv := vErr_ok h0
    have hfn := full_n hv.1 hv.2.1
    refine hw_region (E := TrydE) Trydok ?_; (iterate 2 refine rq rfl rfl rfl rfl rfl ?_); refine rc rfl rfl rfl rfl rfl rfl good28 (cRFull n) (CoL.refl _) rfl rfl ?_; (iterate 2 refine rq rfl rfl rfl rfl rfl ?_); refine rg_nil ?_
    show HW _ _ _ _ _; refine hw_cond _ rfl (fun r1 => ?_) (fun r1 => ?_)
    · skip
      have h1 := r1
      have h1 := of_decide_eq_false (not_t h1)
      try simp only [Int.toNat_natCast] at h1
      refine hw_seq ?_; refine hw_region (E := TrydE) Trydok ?_; (iterate 2 refine rq rfl rfl rfl rfl rfl ?_); refine rg_nil ?_; show HW _ _ _ _ _; refine hw_ret ?_; refine ⟨.inr rfl, ?_⟩
      have he := loc_2 h0 (fun e => h1 (sub_iff_not.2 e))
      exact ⟨_, _, _, _, rfl, (by (repeat' apply And.intro) <;> first | trivial | exact Nat.le_of_ble_eq_true rfl | rfl), rfl, (by (repeat' apply And.intro) <;> first | trivial | exact Nat.le_of_ble_eq_true rfl | rfl), ⟨ccb he.2.symm, cci he.1.symm, trivial⟩⟩
    · skip
      have h1 := r1
      have h1 := of_decide_eq_true (not_f h1)
      try simp only [Int.toNat_natCast] at h1
      refine hw_skip ?_; show HW _ _ _ _ _; refine hw_seq ?_
      have hsp := sub_iff_not.1 h1
      have hpl := subLe hsp
      have hfe : asI (fullI n) = ((fullI n).toNat : Int) := rfl
      refine hw_region (E := TrydE) Trydok ?_; (iterate 2 refine rq rfl rfl rfl rfl rfl ?_); refine rc rfl rfl rfl rfl rfl rfl good44 (cR23local l p (by omega)) (CoL.refl _) rfl rfl ?_; (iterate 2 refine rq rfl rfl rfl rfl rfl ?_)
      refine rg_nil ?_; show HW _ _ _ _ _; refine hw_ret ?_; refine ⟨.inr rfl, ?_⟩
      have he := loc_3 h0 hsp
      exact ⟨_, _, _, _, rfl, (by (repeat' apply And.intro) <;> first | trivial | exact Nat.le_of_ble_eq_true rfl | rfl), rfl, (by (repeat' apply And.intro) <;> first | trivial | exact Nat.le_of_ble_eq_true rfl | rfl), ⟨ccb he.2.symm, cci he.1.symm, trivial⟩⟩
end Go.Hx
end
section
namespace Go.Hx
theorem mem_othersL {l : List Fd} {i : Nat} {x : Fd} (h : x ∈ othersL l i) : x ∈ l := by
  unfold othersL at h
  rcases List.mem_append.1 h with h | h
  · exact List.mem_of_mem_take h
  · exact List.mem_of_mem_drop h
theorem mem_dropR {x : Fd} : ∀ (f : Nat) (l : List Fd) (i : Nat), x ∈ dropR f l i → x ∈ l
  | 0, l, i, h => h
  | f + 1, l, i, h => by
    unfold dropR at h
    split at h
    · split at h
      · exact mem_othersL (mem_dropR f _ _ h)
      · exact mem_dropR f _ _ h
    · exact h
theorem minS_in {n : Int} {l : List Fd} (h : vErr n l = 0) : lhsIn (fullI n) (minS l) := fun x hx => by
  have h1 := mem_dropR _ _ _ hx
  exact redT_in (spl_in (valid_in h)) _ x (mem_onceL.1 h1)
section
variable {n : Int} {l : List Fd}
theorem clo_full_iff (h : vErr n l = 0) {x : AS} (hx : sub x (fullI n)) : sub (fullI n) (clo l x) ↔ clo l x = fullI n :=
  ⟨fun e => sub_antisymm (clo_full h hx) e, fun e => by rw [e]; exact sub_refl _⟩
theorem skey_supP (h : vErr n l = 0) {x : AS} (hx : sub x (fullI n)) : skey n l x = supP l (fullI n) x := by
  unfold skey supP
  exact decide_eq_decide.2 ⟨fun e => (clo_full_iff h hx).2 e.2.2, fun e => ⟨h, hx, (clo_full_iff h hx).1 e⟩⟩
theorem noA_sub {x : AS} {a : Nat} : sub (noA x a) x := sub_and_r
theorem full_bit {n : Int} (h0 : 0 ≤ n) (h1 : n ≤ 16) {k : Nat} (hk : k < 32) : (fullI n).getLsbD k = decide (k < n.toNat) := by
  unfold fullI
  rw [fullS_bit _ k hk, Nat.min_eq_left (by omega)]
theorem isKey_pkey (h : vErr n l = 0) {x : AS} (hx : sub x (fullI n)) : isKey n l x = pkey l (fullI n) x := by
  obtain ⟨h0, h1, _⟩ := vErr_ok h
  unfold isKey pkey
  rw [skey_supP h hx]
  congr 1
  unfold minL
  rw [Bool.eq_iff_iff, List.all_eq_true, List.all_eq_true]
  constructor
  · intro hh a ha
    rw [List.mem_range] at ha
    cases hb : x.getLsbD a with
    | false => rfl
    | true =>
      have hf := sub_bit.1 hx a ha hb
      rw [full_bit h0 h1 ha] at hf
      have := hh a (List.mem_range.2 (of_decide_eq_true hf))
      rwa [hb, skey_supP h (sub_trans noA_sub hx)] at this
  · intro hh a ha
    rw [List.mem_range] at ha
    have := hh a (List.mem_range.2 (by omega))
    rwa [← skey_supP h (sub_trans noA_sub hx)] at this
theorem prime_eq (h : vErr n l = 0) : orL (keysL n l) = primeS l (fullI n) := by
  obtain ⟨h0, h1, _⟩ := vErr_ok h
  have hfn := full_n h0 h1
  have hfe : asI (fullI n) = ((fullI n).toNat : Int) := rfl
  unfold primeS
  refine orL_same fun z => ?_
  rw [keysL_t h, mem_ord, List.mem_filter, mem_tsubs]
  show z ∈ (numR (2 ^ n.toNat)).filter (isKey n l) ↔ _
  rw [List.mem_filter, mem_numR (by omega)]
  constructor
  · rintro ⟨hz, hk⟩
    have hs : sub z (fullI n) := by
      have : z = BitVec.ofNat 32 z.toNat := by rw [BitVec.ofNat_toNat, BitVec.setWidth_eq]
      rw [this]
      exact small_sub h0 h1 hz
    exact ⟨hs, by rw [← isKey_pkey h hs]; exact hk⟩
  · rintro ⟨hs, hk⟩
    have := subLe hs
    exact ⟨by omega, by rw [isKey_pkey h hs]; exact hk⟩
def vio3 (n : Int) (l : List Fd) (f : Fd) : Bool := decide (clo l f.lhs ≠ fullI n) && decide (f.rhs &&& ~~~primeS l (fullI n) ≠ 0)
def viosT (n : Int) (l : List Fd) (i : Nat) : List Fd := ((minE n l).take i).filter (vio3 n l)
def viosE (n : Int) (l : List Fd) : List Fd := (minE n l).filter (vio3 n l)
theorem viosT_t {i : Nat} (hi : i < (minE n l).length) (h : vio3 n l ((minE n l).getD i default) = true) : viosT n l (i + 1) = viosT n l i ++ [(minE n l).getD i default] := by
  unfold viosT
  rw [take_snoc hi, List.filter_append]
  simp only [List.filter_cons, h, if_true, List.filter_nil]
theorem viosT_f {i : Nat} (hi : i < (minE n l).length) (h : vio3 n l ((minE n l).getD i default) = false) : viosT n l (i + 1) = viosT n l i := by
  unfold viosT
  rw [take_snoc hi, List.filter_append]
  simp only [List.filter_cons, h, Bool.false_eq_true, if_false, List.filter_nil, List.append_nil]
theorem viosT_len (n : Int) (l : List Fd) (i : Nat) : (viosT n l i).length ≤ i := by
  unfold viosT
  exact Nat.le_trans (List.length_filter_le _ _) (by rw [List.length_take]; omega)
theorem viosT_end (n : Int) (l : List Fd) : viosT n l (minE n l).length = viosE n l := by unfold viosT viosE; rw [List.take_length]
theorem viosE_f (h : ¬ vErr n l = 0) : viosE n l = [] := by unfold viosE; rw [minE_f h]; rfl
theorem minE_len (n : Int) (l : List Fd) : (minE n l).length ≤ 2048 := by
  unfold minE
  split
  · rename_i h
    have h1 := (vErr_ok h).2.2.1
    have h2 := redAll_len l
    have h3 : (minS l).length ≤ (redAll l).length := by
      have : ∀ (f : Nat) (k : List Fd) (i : Nat), (dropR f k i).length ≤ k.length := by
        intro f
        induction f with
        | zero => intro k i; exact Nat.le_refl _
        | succ f ih =>
          intro k i
          unfold dropR
          split
          · rename_i hi
            split
            · exact Nat.le_trans (ih _ _) (by rw [othersL_len hi]; omega)
            · exact ih _ _
          · exact Nat.le_refl _
      exact this _ _ _
    omega
  · simp
theorem vio3_f1 {f : Fd} (h : asI (clo l f.lhs) = asI (fullI n)) : vio3 n l f = false := by unfold vio3; rw [asI_inj.1 h]; simp
theorem vio3_f2 {f : Fd} (h : bitV .andNot .u32 (asI f.rhs) (asI (primeS l (fullI n))) = 0) : vio3 n l f = false := by
  have h2 : f.rhs &&& ~~~primeS l (fullI n) = 0 := sub_iff_not.1 h
  unfold vio3
  rw [h2]
  simp
theorem vio3_t {f : Fd} (h : ¬ asI (clo l f.lhs) = asI (fullI n)) (h2 : ¬ bitV .andNot .u32 (asI f.rhs) (asI (primeS l (fullI n))) = 0) : vio3 n l f = true := by
  unfold vio3
  rw [Bool.and_eq_true, decide_eq_true_iff, decide_eq_true_iff]
  exact ⟨fun e => h (congrArg asI e), fun e => h2 (sub_iff_not.2 e)⟩
theorem lhs_at (h : vErr n l = 0) {i : Nat} (hi : i < (minE n l).length) : sub ((minE n l).getD i default).lhs (fullI n) := by
  have hm : (minE n l).getD i default ∈ minE n l := by
    rw [List.getD_eq_getElem?_getD, List.getElem?_eq_getElem hi]
    exact List.getElem_mem hi
  generalize (minE n l).getD i default = f at *
  rw [minE_t h] at hm
  exact minS_in h f hm
theorem vio3_f1' (h : vErr n l = 0) {i : Nat} (hi : i < (minE n l).length) (hs : decide (sub (fullI n) (clo l ((minE n l).getD i default).lhs)) = true) : vio3 n l ((minE n l).getD i default) = false :=
  vio3_f1 (congrArg asI ((clo_full_iff h (lhs_at h hi)).1 (of_decide_eq_true hs)))
theorem vio3_t' (h : vErr n l = 0) {i : Nat} (hi : i < (minE n l).length) (hs : decide (sub (fullI n) (clo l ((minE n l).getD i default).lhs)) = false) (h2 : ¬ bitV .andNot .u32 (asI ((minE n l).getD i default).rhs) (asI (primeS l (fullI n))) = 0) : vio3 n l ((minE n l).getD i default) = true :=
  vio3_t (fun e => of_decide_eq_false hs ((clo_full_iff h (lhs_at h hi)).2 (asI_inj.1 e))) h2
end
theorem len_nil {L : List Fd} : decide ((L.length : Int) = 0) = decide (L = []) := decide_eq_decide.2 ⟨fun h => List.eq_nil_of_length_eq_zero (by omega), fun h => by rw [h]; rfl⟩
theorem is3_t {b : Bool} {L : List Fd} : (bif b then decide ((L.length : Int) = 0) else false) = (b && decide (L = [])) := by
  rw [len_nil]
  cases b <;> rfl
end Go.Hx
end
