/- A part of the proof: lemmas for the theorem of this claim, merged by a program of ours out of W3. -/
import Derived.Test.YtdcdbghdgjlhhaaGreatN14
set_option linter.all false
section
namespace Go.Hx
open Go.Proofs
set_option maxRecDepth 100000
theorem good113 : goodFn Tryz.prog 113 := ⟨Tryz.f113, Tryz.func113, by kernel_rfl, by kernel_rfl⟩
theorem c113 (c : Int) : HPure Tryz.prog 113 [pU c] (prOf [pB (ltr c)]) := by
  refine hpure_of (nt := 21) Tryzok Tryz.func113 rfl rfl (Nat.le_of_ble_eq_true rfl) ?_; refine hw_seq ?_; refine hw_region (E := TryzE) Tryzok ?_; refine rq rfl rfl rfl rfl rfl ?_; refine rg_nil ?_; show HW _ _ _ _ _
  refine hw_seq ?_; refine hw_region (E := TryzE) Tryzok ?_; (iterate 3 refine rq rfl rfl rfl rfl rfl ?_); refine rsplit rfl rfl (fun r0 => ?_) (fun r0 => ?_)
  · skip
    have h0 := r0
    have h0 := of_decide_eq_true h0
    try simp only [Int.toNat_natCast] at h0
    (iterate 2 refine rq rfl rfl rfl rfl (gtt r0) ?_); (iterate 2 refine rq rfl rfl rfl rfl rfl ?_); refine rsplit rfl rfl (fun r1 => ?_) (fun r1 => ?_)
    · skip
      have h1 := r1
      have h1 := bif_t r0 h1
      have h1 := of_decide_eq_true h1
      try simp only [Int.toNat_natCast] at h1
      (iterate 3 refine rk rfl rfl rfl (gtf r1) ?_); (iterate 2 refine rk rfl rfl rfl rfl ?_); refine rk rfl rfl rfl (gtf r1) ?_; refine rq rfl rfl rfl rfl rfl ?_ (hp := r1); refine rq rfl rfl rfl rfl rfl ?_
      (iterate 2 refine rk rfl rfl rfl rfl ?_); (iterate 2 refine rq rfl rfl rfl rfl rfl ?_); refine rg_nil ?_; show HW _ _ _ _ _; refine hw_ret ?_; refine ⟨.inr rfl, ?_⟩
      exact ⟨_, _, _, _, rfl, (by (repeat' apply And.intro) <;> first | trivial | exact Nat.le_of_ble_eq_true rfl | rfl), rfl, (by (repeat' apply And.intro) <;> first | trivial | exact Nat.le_of_ble_eq_true rfl | rfl), ⟨ccb (by simp [ltr, *]), trivial⟩⟩
    · skip
      have h1 := r1
      have h1 := bif_t r0 h1
      have h1 := of_decide_eq_false h1
      try simp only [Int.toNat_natCast] at h1
      (iterate 3 refine rq rfl rfl rfl rfl (gff r1) ?_); refine rsplit rfl rfl (fun r2 => ?_) (fun r2 => ?_)
      · skip
        have h2 := r2
        have h2 := of_decide_eq_true h2
        try simp only [Int.toNat_natCast] at h2
        (iterate 2 refine rq rfl rfl rfl rfl (gtt r2) ?_); refine rq rfl rfl rfl rfl (gff r1) ?_; (iterate 2 refine rq rfl rfl rfl rfl rfl ?_); refine rsplit rfl rfl (fun r3 => ?_) (fun r3 => ?_)
        · skip
          have h3 := r3
          have h3 := bif_f r1 h3
          have h3 := bif_t r2 h3
          have h3 := of_decide_eq_true h3
          try simp only [Int.toNat_natCast] at h3
          (iterate 2 refine rk rfl rfl rfl (gtf r3) ?_); refine rq rfl rfl rfl rfl rfl ?_ (hp := r3); refine rq rfl rfl rfl rfl rfl ?_; refine rg_nil ?_; show HW _ _ _ _ _; refine hw_ret ?_; refine ⟨.inr rfl, ?_⟩
          exact ⟨_, _, _, _, rfl, (by (repeat' apply And.intro) <;> first | trivial | exact Nat.le_of_ble_eq_true rfl | rfl), rfl, (by (repeat' apply And.intro) <;> first | trivial | exact Nat.le_of_ble_eq_true rfl | rfl), ⟨ccb (by simp [ltr, *]), trivial⟩⟩
        · skip
          have h3 := r3
          have h3 := bif_f r1 h3
          have h3 := bif_t r2 h3
          have h3 := of_decide_eq_false h3
          try simp only [Int.toNat_natCast] at h3
          (iterate 2 refine rq rfl rfl rfl rfl (gff r3) ?_); (iterate 2 refine rq rfl rfl rfl rfl rfl ?_); refine rg_nil ?_; show HW _ _ _ _ _; refine hw_ret ?_; refine ⟨.inr rfl, ?_⟩
          exact ⟨_, _, _, _, rfl, (by (repeat' apply And.intro) <;> first | trivial | exact Nat.le_of_ble_eq_true rfl | rfl), rfl, (by (repeat' apply And.intro) <;> first | trivial | exact Nat.le_of_ble_eq_true rfl | rfl), ⟨ccb (by simp [ltr, *]), trivial⟩⟩
      · skip
        have h2 := r2
        have h2 := of_decide_eq_false h2
        try simp only [Int.toNat_natCast] at h2
        (iterate 2 refine rk rfl rfl rfl (gft r2) ?_); refine rq rfl rfl rfl rfl (gff r1) ?_ (hp := r2); (iterate 2 refine rq rfl rfl rfl rfl rfl ?_); (iterate 2 refine rq rfl rfl rfl rfl (gff (bif_fk r1 rfl)) ?_)
        (iterate 2 refine rq rfl rfl rfl rfl rfl ?_); refine rg_nil ?_; show HW _ _ _ _ _; refine hw_ret ?_; refine ⟨.inr rfl, ?_⟩
        exact ⟨_, _, _, _, rfl, (by (repeat' apply And.intro) <;> first | trivial | exact Nat.le_of_ble_eq_true rfl | rfl), rfl, (by (repeat' apply And.intro) <;> first | trivial | exact Nat.le_of_ble_eq_true rfl | rfl), ⟨ccb (by simp [ltr, *]), trivial⟩⟩
  · skip
    have h0 := r0
    have h0 := of_decide_eq_false h0
    try simp only [Int.toNat_natCast] at h0
    (iterate 2 refine rk rfl rfl rfl (gft r0) ?_); refine rq rfl rfl rfl rfl rfl ?_ (hp := r0); (iterate 4 refine rq rfl rfl rfl rfl rfl ?_); refine rsplit rfl rfl (fun r4 => ?_) (fun r4 => ?_)
    · skip
      have h4 := r4
      have h4 := of_decide_eq_true h4
      try simp only [Int.toNat_natCast] at h4
      (iterate 2 refine rq rfl rfl rfl rfl (gtt r4) ?_); (iterate 3 refine rq rfl rfl rfl rfl rfl ?_); refine rsplit rfl rfl (fun r5 => ?_) (fun r5 => ?_)
      · skip
        have h5 := r5
        have h5 := bif_t r4 h5
        have h5 := of_decide_eq_true h5
        try simp only [Int.toNat_natCast] at h5
        (iterate 2 refine rk rfl rfl rfl (gtf r5) ?_); refine rq rfl rfl rfl rfl rfl ?_ (hp := r5); refine rq rfl rfl rfl rfl rfl ?_; refine rg_nil ?_; show HW _ _ _ _ _; refine hw_ret ?_; refine ⟨.inr rfl, ?_⟩
        exact ⟨_, _, _, _, rfl, (by (repeat' apply And.intro) <;> first | trivial | exact Nat.le_of_ble_eq_true rfl | rfl), rfl, (by (repeat' apply And.intro) <;> first | trivial | exact Nat.le_of_ble_eq_true rfl | rfl), ⟨ccb (by simp [ltr, *]), trivial⟩⟩
      · skip
        have h5 := r5
        have h5 := bif_t r4 h5
        have h5 := of_decide_eq_false h5
        try simp only [Int.toNat_natCast] at h5
        (iterate 2 refine rq rfl rfl rfl rfl (gff r5) ?_); (iterate 2 refine rq rfl rfl rfl rfl rfl ?_); refine rg_nil ?_; show HW _ _ _ _ _; refine hw_ret ?_; refine ⟨.inr rfl, ?_⟩
        exact ⟨_, _, _, _, rfl, (by (repeat' apply And.intro) <;> first | trivial | exact Nat.le_of_ble_eq_true rfl | rfl), rfl, (by (repeat' apply And.intro) <;> first | trivial | exact Nat.le_of_ble_eq_true rfl | rfl), ⟨ccb (by simp [ltr, *]), trivial⟩⟩
    · skip
      have h4 := r4
      have h4 := of_decide_eq_false h4
      try simp only [Int.toNat_natCast] at h4
      (iterate 2 refine rk rfl rfl rfl (gft r4) ?_); refine rq rfl rfl rfl rfl rfl ?_ (hp := r4); (iterate 2 refine rq rfl rfl rfl rfl rfl ?_); (iterate 2 refine rq rfl rfl rfl rfl (gff (bif_fk rfl rfl)) ?_)
      (iterate 2 refine rq rfl rfl rfl rfl rfl ?_); refine rg_nil ?_; show HW _ _ _ _ _; refine hw_ret ?_; refine ⟨.inr rfl, ?_⟩
      exact ⟨_, _, _, _, rfl, (by (repeat' apply And.intro) <;> first | trivial | exact Nat.le_of_ble_eq_true rfl | rfl), rfl, (by (repeat' apply And.intro) <;> first | trivial | exact Nat.le_of_ble_eq_true rfl | rfl), ⟨ccb (by simp [ltr, *]), trivial⟩⟩
theorem good102 : goodFn Tryz.prog 102 := ⟨Tryz.f102, Tryz.func102, by kernel_rfl, by kernel_rfl⟩
theorem c102 (s : ByteArray) : HPure Tryz.prog 102 [pS s] (prOf [pB (isNm s)]) := by
  refine hpure_of (nt := 45) Tryzok Tryz.func102 rfl rfl (Nat.le_of_ble_eq_true rfl) ?_; refine hw_seq ?_; refine hw_region (E := TryzE) Tryzok ?_; refine rq rfl rfl rfl rfl rfl ?_; refine rg_nil ?_; show HW _ _ _ _ _
  (iterate 2 refine hw_seq ?_); refine hw_region (E := TryzE) Tryzok ?_; (iterate 4 refine rq rfl rfl rfl rfl rfl ?_); refine rsplit rfl rfl (fun r0 => ?_) (fun r0 => ?_)
  · skip
    have h0 := r0
    have h0 := of_decide_eq_true h0
    try simp only [Int.toNat_natCast] at h0
    (iterate 3 refine rk rfl rfl rfl (gtf r0) ?_); refine rq rfl rfl rfl rfl rfl ?_ (hp := r0); refine rq rfl rfl rfl rfl rfl ?_; (iterate 4 refine rk rfl rfl rfl rfl ?_); (iterate 2 refine rq rfl rfl rfl rfl rfl ?_)
    (iterate 2 refine rk rfl rfl rfl rfl ?_); refine rq rfl rfl rfl rfl rfl ?_; refine rg_nil ?_; show HW _ _ _ _ _; refine hw_cond _ rfl (fun _ => ?_) (fun e => by cases e); refine hw_seq ?_; refine hw_region (E := TryzE) Tryzok ?_
    refine rq rfl rfl rfl rfl rfl ?_; refine rg_nil ?_; show HW _ _ _ _ _; refine hw_ret ?_; refine ⟨.inr rfl, ?_⟩
    exact ⟨_, _, _, _, rfl, (by (repeat' apply And.intro) <;> first | trivial | exact Nat.le_of_ble_eq_true rfl | rfl), rfl, (by (repeat' apply And.intro) <;> first | trivial | exact Nat.le_of_ble_eq_true rfl | rfl), ⟨ccb (by first | exact (isNm_f0 (by omega)).symm | exact (isNm_len (by omega)).symm | exact (isNm_ltr (by assumption)).symm | exact (isNm_null (by assumption)).symm), trivial⟩⟩
  · skip
    have h0 := r0
    have h0 := of_decide_eq_false h0
    try simp only [Int.toNat_natCast] at h0
    (iterate 3 refine rq rfl rfl rfl rfl (gff r0) ?_); (iterate 2 refine rq rfl rfl rfl rfl rfl ?_); refine rsplit rfl rfl (fun r1 => ?_) (fun r1 => ?_)
    · skip
      have h1 := r1
      have h1 := bif_f r0 h1
      have h1 := of_decide_eq_true h1
      try simp only [Int.toNat_natCast] at h1
      (iterate 4 refine rk rfl rfl rfl (gtf r1) ?_); refine rq rfl rfl rfl rfl rfl ?_ (hp := r1); refine rq rfl rfl rfl rfl rfl ?_; (iterate 2 refine rk rfl rfl rfl rfl ?_); refine rq rfl rfl rfl rfl rfl ?_; refine rg_nil ?_
      show HW _ _ _ _ _; refine hw_cond _ rfl (fun _ => ?_) (fun e => by cases e); refine hw_seq ?_; refine hw_region (E := TryzE) Tryzok ?_; refine rq rfl rfl rfl rfl rfl ?_; refine rg_nil ?_; show HW _ _ _ _ _; refine hw_ret ?_
      refine ⟨.inr rfl, ?_⟩
      exact ⟨_, _, _, _, rfl, (by (repeat' apply And.intro) <;> first | trivial | exact Nat.le_of_ble_eq_true rfl | rfl), rfl, (by (repeat' apply And.intro) <;> first | trivial | exact Nat.le_of_ble_eq_true rfl | rfl), ⟨ccb (by first | exact (isNm_f0 (by omega)).symm | exact (isNm_len (by omega)).symm | exact (isNm_ltr (by assumption)).symm | exact (isNm_null (by assumption)).symm), trivial⟩⟩
    · skip
      have h1 := r1
      have h1 := bif_f r0 h1
      have h1 := of_decide_eq_false h1
      try simp only [Int.toNat_natCast] at h1
      (iterate 2 refine rq rfl rfl rfl rfl (gff r1) ?_); refine rc rfl rfl rfl rfl rfl rfl good113 (c113 _) (CoL.refl _) rfl (gff r1) ?_; refine rq rfl rfl rfl rfl (gff r1) ?_; (iterate 2 refine rq rfl rfl rfl rfl rfl ?_)
      refine rsplit rfl rfl (fun r2 => ?_) (fun r2 => ?_)
      · skip
        have h2 := r2
        have h2 := bif_f r1 h2
        have h2 := not_t h2
        (iterate 2 refine rk rfl rfl rfl (gtf r2) ?_); refine rq rfl rfl rfl rfl rfl ?_ (hp := r2); refine rg_nil ?_; show HW _ _ _ _ _; refine hw_cond _ rfl (fun _ => ?_) (fun e => by cases e); refine hw_seq ?_
        refine hw_region (E := TryzE) Tryzok ?_; refine rq rfl rfl rfl rfl rfl ?_; refine rg_nil ?_; show HW _ _ _ _ _; refine hw_ret ?_; refine ⟨.inr rfl, ?_⟩
        exact ⟨_, _, _, _, rfl, (by (repeat' apply And.intro) <;> first | trivial | exact Nat.le_of_ble_eq_true rfl | rfl), rfl, (by (repeat' apply And.intro) <;> first | trivial | exact Nat.le_of_ble_eq_true rfl | rfl), ⟨ccb (by first | exact (isNm_f0 (by omega)).symm | exact (isNm_len (by omega)).symm | exact (isNm_ltr (by assumption)).symm | exact (isNm_null (by assumption)).symm), trivial⟩⟩
      · skip
        have h2 := r2
        have h2 := bif_f r1 h2
        have h2 := not_f h2
        (iterate 2 refine rq rfl rfl rfl rfl (gff r2) ?_); refine rq rfl rfl rfl rfl rfl ?_; refine rg_nil ?_; show HW _ _ _ _ _; refine hw_cond _ rfl (fun r3 => ?_) (fun r3 => ?_)
        · skip
          have h3 := r3
          have h3 := bif_f r2 h3
          have h3 := of_decide_eq_true h3
          try simp only [Int.toNat_natCast] at h3
          refine hw_seq ?_; refine hw_region (E := TryzE) Tryzok ?_; refine rq rfl rfl rfl rfl rfl ?_; refine rg_nil ?_; show HW _ _ _ _ _; refine hw_ret ?_; refine ⟨.inr rfl, ?_⟩
          exact ⟨_, _, _, _, rfl, (by (repeat' apply And.intro) <;> first | trivial | exact Nat.le_of_ble_eq_true rfl | rfl), rfl, (by (repeat' apply And.intro) <;> first | trivial | exact Nat.le_of_ble_eq_true rfl | rfl), ⟨ccb (by first | exact (isNm_f0 (by omega)).symm | exact (isNm_len (by omega)).symm | exact (isNm_ltr (by assumption)).symm | exact (isNm_null (by assumption)).symm), trivial⟩⟩
        · skip
          have h3 := r3
          have h3 := bif_f r2 h3
          have h3 := of_decide_eq_false h3
          try simp only [Int.toNat_natCast] at h3
          refine hw_skip ?_; show HW _ _ _ _ _; refine hw_joinK (ι := Unit) ⟨[], []⟩ ⟨trivial, trivial⟩ (fun _i => ⟨[], []⟩) (fun _i => isNm s = true) ?_ ?_
          · skip
            refine hw_seq ?_; refine hw_region (E := TryzE) Tryzok ?_; refine rq rfl rfl rfl rfl rfl ?_; refine rg_nil ?_; show HW _ _ _ _ _; refine hw_block ?_
            refine hw_loopK (ι := Nat) ⟨[(0, some _)], []⟩ ⟨⟨⟨_, rfl, CoR.refl _⟩, trivial⟩, trivial⟩ (fun i => ⟨[(3, some (vI i))], []⟩) (fun i => i ≤ s.size ∧ ∀ j, j < i → (ltr (byteAt s j) || dig (byteAt s j)) = true) (fun i => s.size - i) (0) (⟨Nat.zero_le _, all_zero⟩) ⟨⟨⟨_, rfl, (by first | exact CoR.refl _ | exact coi (by omega) | exact cob (by simp_all))⟩, trivial⟩, trivial⟩ ?_
            rintro i ⟨hi, hI⟩
            (iterate 2 refine hw_seq ?_); refine hw_region (E := TryzE) Tryzok ?_; (iterate 4 refine rq rfl rfl rfl rfl rfl ?_); refine rg_nil ?_; show HW _ _ _ _ _; refine hw_cond _ rfl (fun r4 => ?_) (fun r4 => ?_)
            · skip
              have h4 := r4
              have h4 := of_decide_eq_true h4
              try simp only [Int.toNat_natCast] at h4
              refine hw_skip ?_; show HW _ _ _ _ _; refine hw_seq ?_; refine hw_block ?_; refine hw_seq ?_; refine hw_region (E := TryzE) Tryzok ?_; (iterate 3 refine rq rfl rfl rfl rfl rfl ?_)
              refine rc rfl rfl rfl rfl rfl rfl good113 (c113 _) (CoL.refl _) rfl rfl ?_; (iterate 2 refine rq rfl rfl rfl rfl rfl ?_); refine rsplit rfl rfl (fun r5 => ?_) (fun r5 => ?_)
              · skip
                have h5 := r5
                have h5 := not_t h5
                (iterate 5 refine rq rfl rfl rfl rfl (gtt r5) ?_); refine rsplit rfl rfl (fun r6 => ?_) (fun r6 => ?_)
                · skip
                  have h6 := r6
                  have h6 := of_decide_eq_true h6
                  try simp only [Int.toNat_natCast] at h6
                  (iterate 4 refine rk rfl rfl rfl (gtf r6) ?_); refine rq rfl rfl rfl rfl (gtt r5) ?_ (hp := r6); refine rq rfl rfl rfl rfl rfl ?_; refine rg_nil ?_; show HW _ _ _ _ _
                  refine hw_cond _ rfl (fun _ => ?_) (fun e => Bool.noConfusion ((bif_tk r5 rfl).symm.trans e)); refine hw_seq ?_; refine hw_region (E := TryzE) Tryzok ?_; refine rq rfl rfl rfl rfl rfl ?_; refine rg_nil ?_
                  show HW _ _ _ _ _; refine hw_ret ?_; refine ⟨.inr rfl, ?_⟩
                  exact ⟨_, _, _, _, rfl, (by (repeat' apply And.intro) <;> first | trivial | exact Nat.le_of_ble_eq_true rfl | rfl), rfl, (by (repeat' apply And.intro) <;> first | trivial | exact Nat.le_of_ble_eq_true rfl | rfl), ⟨ccb (isNm_rest (i := i) (by omega) (by assumption) (by simp_all [dig] <;> omega)).symm, trivial⟩⟩
                · skip
                  have h6 := r6
                  have h6 := of_decide_eq_false h6
                  try simp only [Int.toNat_natCast] at h6
                  (iterate 4 refine rq rfl rfl rfl rfl (gff r6) ?_); refine rq rfl rfl rfl rfl (gtt r5) ?_; refine rq rfl rfl rfl rfl rfl ?_; refine rg_nil ?_; show HW _ _ _ _ _; refine hw_cond _ rfl (fun r7 => ?_) (fun r7 => ?_)
                  · skip
                    have h7 := r7
                    have h7 := bif_t r5 h7
                    have h7 := bif_f r6 h7
                    have h7 := of_decide_eq_true h7
                    try simp only [Int.toNat_natCast] at h7
                    refine hw_seq ?_; refine hw_region (E := TryzE) Tryzok ?_; refine rq rfl rfl rfl rfl rfl ?_; refine rg_nil ?_; show HW _ _ _ _ _; refine hw_ret ?_; refine ⟨.inr rfl, ?_⟩
                    exact ⟨_, _, _, _, rfl, (by (repeat' apply And.intro) <;> first | trivial | exact Nat.le_of_ble_eq_true rfl | rfl), rfl, (by (repeat' apply And.intro) <;> first | trivial | exact Nat.le_of_ble_eq_true rfl | rfl), ⟨ccb (isNm_rest (i := i) (by omega) (by assumption) (by simp_all [dig] <;> omega)).symm, trivial⟩⟩
                  · skip
                    have h7 := r7
                    have h7 := bif_t r5 h7
                    have h7 := bif_f r6 h7
                    have h7 := of_decide_eq_false h7
                    try simp only [Int.toNat_natCast] at h7
                    refine hw_skip ?_; show HW _ _ _ _ _; refine hw_region (E := TryzE) Tryzok ?_; (iterate 3 refine rq rfl rfl rfl rfl rfl ?_); refine rg_nil ?_; refine ⟨i + 1, ?_, ?_, ?_⟩
                    · exact ⟨by omega, all_succ hI (by simp_all [dig] <;> omega)⟩
                    · first | omega | (dsimp only; omega)
                    · exact ⟨⟨⟨_, rfl, (by first | exact CoR.refl _ | exact coi (by omega) | exact cob (by simp_all))⟩, ⟨_, rfl, CoR.refl _⟩, trivial⟩, trivial⟩
              · skip
                have h5 := r5
                have h5 := not_f h5
                (iterate 5 refine rk rfl rfl rfl (gft r5) ?_); (iterate 4 refine rk rfl rfl rfl rfl ?_); refine rk rfl rfl rfl (gft r5) ?_; refine rq rfl rfl rfl rfl rfl ?_ (hp := r5); refine rg_nil ?_; show HW _ _ _ _ _
                refine hw_cond _ rfl (fun e => by cases e) (fun _ => ?_); refine hw_skip ?_; show HW _ _ _ _ _; refine hw_region (E := TryzE) Tryzok ?_; (iterate 3 refine rq rfl rfl rfl rfl rfl ?_); refine rg_nil ?_
                refine ⟨i + 1, ?_, ?_, ?_⟩
                · exact ⟨by omega, all_succ hI (by simp_all [dig] <;> omega)⟩
                · first | omega | (dsimp only; omega)
                · exact ⟨⟨⟨_, rfl, (by first | exact CoR.refl _ | exact coi (by omega) | exact cob (by simp_all))⟩, ⟨_, rfl, CoR.refl _⟩, trivial⟩, trivial⟩
            · skip
              have h4 := r4
              have h4 := of_decide_eq_false h4
              try simp only [Int.toNat_natCast] at h4
              refine hw_exit ?_; refine ⟨(), ?_, ?_⟩
              · exact isNm_t (by omega) (by omega) (by assumption) (by assumption) (fun j hj => hI j (by omega))
              · exact ⟨trivial, trivial⟩
          · rintro _ hj
            refine hw_seq ?_; refine hw_region (E := TryzE) Tryzok ?_; refine rq rfl rfl rfl rfl rfl ?_; refine rg_nil ?_; show HW _ _ _ _ _; refine hw_ret ?_; refine ⟨.inr rfl, ?_⟩
            exact ⟨_, _, _, _, rfl, (by (repeat' apply And.intro) <;> first | trivial | exact Nat.le_of_ble_eq_true rfl | rfl), rfl, (by (repeat' apply And.intro) <;> first | trivial | exact Nat.le_of_ble_eq_true rfl | rfl), ⟨ccb hj.symm, trivial⟩⟩
theorem good114 : goodFn Tryz.prog 114 := ⟨Tryz.f114, Tryz.func114, by kernel_rfl, by kernel_rfl⟩
theorem c114 (l : List ByteArray) (s : ByteArray) : HPure Tryz.prog 114 [pP (strs l), pS s] (prOf [pI (atIx l s)]) := by
  refine hpure_of (nt := 19) Tryzok Tryz.func114 rfl rfl (Nat.le_of_ble_eq_true rfl) ?_; refine hw_bt 0 rfl (fun hn => ?_); refine hw_seq ?_; refine hw_region (E := TryzE) Tryzok ?_; refine rq rfl rfl rfl rfl rfl ?_
  refine rg_nil ?_; show HW _ _ _ _ _; refine hw_joinK (ι := Unit) ⟨[], []⟩ ⟨trivial, trivial⟩ (fun _i => ⟨[], []⟩) (fun _i => atIx l s = -1) ?_ ?_
  · skip
    refine hw_seq ?_; refine hw_region (E := TryzE) Tryzok ?_; refine rq rfl rfl rfl rfl rfl ?_; refine rg_nil ?_; show HW _ _ _ _ _; refine hw_block ?_
    refine hw_loopK (ι := Nat) ⟨[(0, some _), (1, some _)], []⟩ ⟨⟨⟨_, rfl, CoR.refl _⟩, ⟨_, rfl, CoR.refl _⟩, trivial⟩, trivial⟩ (fun i => ⟨[(5, some (vI i))], []⟩) (fun i => i ≤ l.length ∧ ∀ j, j < i → decide (l.getD j default = s) = false) (fun i => l.length - i) (0) (⟨Nat.zero_le _, all_zero⟩) ⟨⟨⟨_, rfl, (by first | exact CoR.refl _ | exact coi (by omega) | exact cob (by simp_all))⟩, trivial⟩, trivial⟩ ?_
    rintro i ⟨hi, hI⟩
    (iterate 2 refine hw_seq ?_); refine hw_region (E := TryzE) Tryzok ?_; (iterate 4 refine rq rfl rfl rfl rfl rfl ?_); refine rg_nil ?_; show HW _ _ _ _ _; refine hw_cond _ rfl (fun r0 => ?_) (fun r0 => ?_)
    · skip
      have h0 := r0
      have h0 := of_decide_eq_true h0
      try simp only [Int.toNat_natCast] at h0
      refine hw_skip ?_; show HW _ _ _ _ _; refine hw_seq ?_; refine hw_block ?_; refine hw_seq ?_; refine hw_region (E := TryzE) Tryzok ?_; (iterate 6 refine rq rfl rfl rfl rfl rfl ?_); refine rg_nil ?_; show HW _ _ _ _ _
      refine hw_cond _ rfl (fun r1 => ?_) (fun r1 => ?_)
      · skip
        have h1 := r1
        have h1 := of_decide_eq_true h1
        try simp only [Int.toNat_natCast] at h1
        refine hw_seq ?_; refine hw_region (E := TryzE) Tryzok ?_; (iterate 2 refine rq rfl rfl rfl rfl rfl ?_); refine rg_nil ?_; show HW _ _ _ _ _; refine hw_ret ?_; refine ⟨.inr rfl, ?_⟩
        exact ⟨_, _, _, _, rfl, (by (repeat' apply And.intro) <;> first | trivial | exact Nat.le_of_ble_eq_true rfl | rfl), rfl, (by (repeat' apply And.intro) <;> first | trivial | exact Nat.le_of_ble_eq_true rfl | rfl), ⟨cci (idx_t (p := fun x => decide (x = s)) (i := i) (by omega) hI (decide_eq_true h1)).symm, trivial⟩⟩
      · skip
        have h1 := r1
        have h1 := of_decide_eq_false h1
        try simp only [Int.toNat_natCast] at h1
        refine hw_skip ?_; show HW _ _ _ _ _; refine hw_region (E := TryzE) Tryzok ?_; (iterate 3 refine rq rfl rfl rfl rfl rfl ?_); refine rg_nil ?_; refine ⟨i + 1, ?_, ?_, ?_⟩
        · exact ⟨by omega, all_succ hI (decide_eq_false h1)⟩
        · first | omega | (dsimp only; omega)
        · exact ⟨⟨⟨_, rfl, (by first | exact CoR.refl _ | exact coi (by omega) | exact cob (by simp_all))⟩, ⟨_, rfl, CoR.refl _⟩, ⟨_, rfl, CoR.refl _⟩, trivial⟩, trivial⟩
    · skip
      have h0 := r0
      have h0 := of_decide_eq_false h0
      try simp only [Int.toNat_natCast] at h0
      refine hw_exit ?_; refine ⟨(), ?_, ?_⟩
      · exact idx_f (p := fun x => decide (x = s)) fun j hj => hI j (by omega)
      · exact ⟨trivial, trivial⟩
  · rintro _ hj
    refine hw_seq ?_; refine hw_region (E := TryzE) Tryzok ?_; refine rq rfl rfl rfl rfl rfl ?_; refine rg_nil ?_; show HW _ _ _ _ _; refine hw_ret ?_; refine ⟨.inr rfl, ?_⟩
    exact ⟨_, _, _, _, rfl, (by (repeat' apply And.intro) <;> first | trivial | exact Nat.le_of_ble_eq_true rfl | rfl), rfl, (by (repeat' apply And.intro) <;> first | trivial | exact Nat.le_of_ble_eq_true rfl | rfl), ⟨cci hj.symm, trivial⟩⟩
theorem good103 : goodFn Tryz.prog 103 := ⟨Tryz.f103, Tryz.func103, by kernel_rfl, by kernel_rfl⟩
theorem c103 (l : List ByteArray) : HPure Tryz.prog 103 [pP (strs l)] (prOf [pB (nmsOk l)]) := by
  refine hpure_of (nt := 27) Tryzok Tryz.func103 rfl rfl (Nat.le_of_ble_eq_true rfl) ?_; refine hw_bt 0 rfl (fun hn => ?_); refine hw_seq ?_; refine hw_region (E := TryzE) Tryzok ?_; refine rq rfl rfl rfl rfl rfl ?_
  refine rg_nil ?_; show HW _ _ _ _ _; refine hw_joinK (ι := Unit) ⟨[], []⟩ ⟨trivial, trivial⟩ (fun _i => ⟨[], []⟩) (fun _i => nmsOk l = true) ?_ ?_
  · skip
    refine hw_seq ?_; refine hw_region (E := TryzE) Tryzok ?_; refine rq rfl rfl rfl rfl rfl ?_; refine rg_nil ?_; show HW _ _ _ _ _; refine hw_block ?_
    refine hw_loopK (ι := Nat) ⟨[(0, some _)], []⟩ ⟨⟨⟨_, rfl, CoR.refl _⟩, trivial⟩, trivial⟩ (fun i => ⟨[(3, some (vI i))], []⟩) (fun i => i ≤ l.length ∧ ∀ j, j < i → nmsAt l j = true) (fun i => l.length - i) (0) (⟨Nat.zero_le _, all_zero⟩) ⟨⟨⟨_, rfl, (by first | exact CoR.refl _ | exact coi (by omega) | exact cob (by simp_all))⟩, trivial⟩, trivial⟩ ?_
    rintro i ⟨hi, hI⟩
    (iterate 2 refine hw_seq ?_); refine hw_region (E := TryzE) Tryzok ?_; (iterate 4 refine rq rfl rfl rfl rfl rfl ?_); refine rg_nil ?_; show HW _ _ _ _ _; refine hw_cond _ rfl (fun r0 => ?_) (fun r0 => ?_)
    · skip
      have h0 := r0
      have h0 := of_decide_eq_true h0
      try simp only [Int.toNat_natCast] at h0
      refine hw_skip ?_; show HW _ _ _ _ _; refine hw_seq ?_; refine hw_block ?_; refine hw_seq ?_; refine hw_draw (E := TryzE) Tryzok Tryzmixed [0, 1, 2, 3, 4, 5, 6, 7, 8, 9, 10, 11, 12, 13, 14, 15, 16] ?_
      (iterate 4 refine rq rfl rfl rfl rfl rfl ?_); refine rc rfl rfl rfl rfl rfl rfl good102 (c102 _) (CoL.refl _) rfl rfl ?_; (iterate 2 refine rq rfl rfl rfl rfl rfl ?_); refine rsplit rfl rfl (fun r1 => ?_) (fun r1 => ?_)
      · skip
        have h1 := r1
        have h1 := not_t h1
        (iterate 9 refine rk rfl rfl rfl (gtf r1) ?_); refine rq rfl rfl rfl rfl rfl ?_ (hp := r1); refine rg_nil ?_; refine ⟨by kernel_rfl, ?_⟩; show HW _ _ _ _ _; refine hw_cond _ rfl (fun _ => ?_) (fun e => by cases e)
        refine hw_seq ?_; refine hw_region (E := TryzE) Tryzok ?_; refine rq rfl rfl rfl rfl rfl ?_; refine rg_nil ?_; show HW _ _ _ _ _; refine hw_ret ?_; refine ⟨.inr rfl, ?_⟩
        exact ⟨_, _, _, _, rfl, (by (repeat' apply And.intro) <;> first | trivial | exact Nat.le_of_ble_eq_true rfl | rfl), rfl, (by (repeat' apply And.intro) <;> first | trivial | exact Nat.le_of_ble_eq_true rfl | rfl), ⟨ccb (range_all_f (i := i) (by omega) (by first | (unfold nmsAt; simp_all; done) | (unfold nmsAt; rw [Bool.and_eq_false_iff]; right; exact decide_eq_false (by omega)))).symm, trivial⟩⟩
      · skip
        have h1 := r1
        have h1 := not_f h1
        (iterate 7 refine rq rfl rfl rfl rfl (gff r1) ?_); refine rc rfl rfl rfl rfl rfl rfl good114 (c114 (l.take i) (l.getD i default)) (⟨CoC.one (co_take (k := i) (by omega)), CoC.refl _, trivial⟩) rfl (gff r1) ?_
        refine rq rfl rfl rfl rfl (gff r1) ?_; refine rq rfl rfl rfl rfl rfl ?_; refine rg_nil ?_; refine ⟨by kernel_rfl, ?_⟩; show HW _ _ _ _ _; refine hw_cond _ rfl (fun r2 => ?_) (fun r2 => ?_)
        · skip
          have h2 := r2
          have h2 := bif_f r1 h2
          have h2 := of_decide_eq_true h2
          try simp only [Int.toNat_natCast] at h2
          refine hw_seq ?_; refine hw_region (E := TryzE) Tryzok ?_; refine rq rfl rfl rfl rfl rfl ?_; refine rg_nil ?_; show HW _ _ _ _ _; refine hw_ret ?_; refine ⟨.inr rfl, ?_⟩
          exact ⟨_, _, _, _, rfl, (by (repeat' apply And.intro) <;> first | trivial | exact Nat.le_of_ble_eq_true rfl | rfl), rfl, (by (repeat' apply And.intro) <;> first | trivial | exact Nat.le_of_ble_eq_true rfl | rfl), ⟨ccb (range_all_f (i := i) (by omega) (by first | (unfold nmsAt; simp_all; done) | (unfold nmsAt; rw [Bool.and_eq_false_iff]; right; exact decide_eq_false (by omega)))).symm, trivial⟩⟩
        · skip
          have h2 := r2
          have h2 := bif_f r1 h2
          have h2 := of_decide_eq_false h2
          try simp only [Int.toNat_natCast] at h2
          refine hw_skip ?_; show HW _ _ _ _ _; refine hw_region (E := TryzE) Tryzok ?_; (iterate 3 refine rq rfl rfl rfl rfl rfl ?_); refine rg_nil ?_; refine ⟨i + 1, ?_, ?_, ?_⟩
          · exact ⟨by omega, all_succ hI (by simp only [nmsAt, Bool.and_eq_true, decide_eq_true_eq]; exact ⟨by assumption, by omega⟩)⟩
          · first | omega | (dsimp only; omega)
          · exact ⟨⟨⟨_, rfl, (by first | exact CoR.refl _ | exact coi (by omega) | exact cob (by simp_all))⟩, ⟨_, rfl, CoR.refl _⟩, trivial⟩, trivial⟩
    · skip
      have h0 := r0
      have h0 := of_decide_eq_false h0
      try simp only [Int.toNat_natCast] at h0
      refine hw_exit ?_; refine ⟨(), ?_, ?_⟩
      · exact range_all_t fun j hj => hI j (by omega)
      · exact ⟨trivial, trivial⟩
  · rintro _ hj
    refine hw_seq ?_; refine hw_region (E := TryzE) Tryzok ?_; refine rq rfl rfl rfl rfl rfl ?_; refine rg_nil ?_; show HW _ _ _ _ _; refine hw_ret ?_; refine ⟨.inr rfl, ?_⟩
    exact ⟨_, _, _, _, rfl, (by (repeat' apply And.intro) <;> first | trivial | exact Nat.le_of_ble_eq_true rfl | rfl), rfl, (by (repeat' apply And.intro) <;> first | trivial | exact Nat.le_of_ble_eq_true rfl | rfl), ⟨ccb hj.symm, trivial⟩⟩
theorem good104 : goodFn Tryz.prog 104 := ⟨Tryz.f104, Tryz.func104, by kernel_rfl, by kernel_rfl⟩
theorem c104 (s : ByteArray) : HPure Tryz.prog 104 [pS s] (prOf [pB (isNm s)]) := by
  refine hpure_of (nt := 58) Tryzok Tryz.func104 rfl rfl (Nat.le_of_ble_eq_true rfl) ?_; refine hw_seq ?_; refine hw_region (E := TryzE) Tryzok ?_; refine rq rfl rfl rfl rfl rfl ?_; refine rg_nil ?_; show HW _ _ _ _ _
  (iterate 2 refine hw_seq ?_); refine hw_region (E := TryzE) Tryzok ?_; (iterate 3 refine rq rfl rfl rfl rfl rfl ?_); refine rsplit rfl rfl (fun r0 => ?_) (fun r0 => ?_)
  · skip
    have h0 := r0
    have h0 := of_decide_eq_true h0
    try simp only [Int.toNat_natCast] at h0
    (iterate 3 refine rk rfl rfl rfl (gtf r0) ?_); refine rq rfl rfl rfl rfl rfl ?_ (hp := r0); refine rq rfl rfl rfl rfl rfl ?_; (iterate 2 refine rk rfl rfl rfl rfl ?_); refine rq rfl rfl rfl rfl rfl ?_; refine rg_nil ?_
    show HW _ _ _ _ _; refine hw_cond _ rfl (fun _ => ?_) (fun e => by cases e); refine hw_seq ?_; refine hw_region (E := TryzE) Tryzok ?_; refine rq rfl rfl rfl rfl rfl ?_; refine rg_nil ?_; show HW _ _ _ _ _; refine hw_ret ?_
    refine ⟨.inr rfl, ?_⟩
    exact ⟨_, _, _, _, rfl, (by (repeat' apply And.intro) <;> first | trivial | exact Nat.le_of_ble_eq_true rfl | rfl), rfl, (by (repeat' apply And.intro) <;> first | trivial | exact Nat.le_of_ble_eq_true rfl | rfl), ⟨ccb (by first | exact (isNm_f0 (size_emp.2 (by assumption))).symm | exact (isNm_len (by omega)).symm | exact (isNm_null (by assumption)).symm), trivial⟩⟩
  · skip
    have h0 := r0
    have h0 := of_decide_eq_false h0
    try simp only [Int.toNat_natCast] at h0
    (iterate 3 refine rq rfl rfl rfl rfl (gff r0) ?_); (iterate 2 refine rq rfl rfl rfl rfl rfl ?_); refine rsplit rfl rfl (fun r1 => ?_) (fun r1 => ?_)
    · skip
      have h1 := r1
      have h1 := bif_f r0 h1
      have h1 := of_decide_eq_true h1
      try simp only [Int.toNat_natCast] at h1
      (iterate 2 refine rk rfl rfl rfl (gtf r1) ?_); refine rq rfl rfl rfl rfl rfl ?_ (hp := r1); refine rg_nil ?_; show HW _ _ _ _ _; refine hw_cond _ rfl (fun _ => ?_) (fun e => by cases e); refine hw_seq ?_
      refine hw_region (E := TryzE) Tryzok ?_; refine rq rfl rfl rfl rfl rfl ?_; refine rg_nil ?_; show HW _ _ _ _ _; refine hw_ret ?_; refine ⟨.inr rfl, ?_⟩
      exact ⟨_, _, _, _, rfl, (by (repeat' apply And.intro) <;> first | trivial | exact Nat.le_of_ble_eq_true rfl | rfl), rfl, (by (repeat' apply And.intro) <;> first | trivial | exact Nat.le_of_ble_eq_true rfl | rfl), ⟨ccb (by first | exact (isNm_f0 (size_emp.2 (by assumption))).symm | exact (isNm_len (by omega)).symm | exact (isNm_null (by assumption)).symm), trivial⟩⟩
    · skip
      have h1 := r1
      have h1 := bif_f r0 h1
      have h1 := of_decide_eq_false h1
      try simp only [Int.toNat_natCast] at h1
      (iterate 2 refine rq rfl rfl rfl rfl (gff r1) ?_); refine rq rfl rfl rfl rfl rfl ?_; refine rg_nil ?_; show HW _ _ _ _ _; refine hw_cond _ rfl (fun r2 => ?_) (fun r2 => ?_)
      · skip
        have h2 := r2
        have h2 := bif_f r1 h2
        have h2 := of_decide_eq_true h2
        try simp only [Int.toNat_natCast] at h2
        refine hw_seq ?_; refine hw_region (E := TryzE) Tryzok ?_; refine rq rfl rfl rfl rfl rfl ?_; refine rg_nil ?_; show HW _ _ _ _ _; refine hw_ret ?_; refine ⟨.inr rfl, ?_⟩
        exact ⟨_, _, _, _, rfl, (by (repeat' apply And.intro) <;> first | trivial | exact Nat.le_of_ble_eq_true rfl | rfl), rfl, (by (repeat' apply And.intro) <;> first | trivial | exact Nat.le_of_ble_eq_true rfl | rfl), ⟨ccb (by first | exact (isNm_f0 (size_emp.2 (by assumption))).symm | exact (isNm_len (by omega)).symm | exact (isNm_null (by assumption)).symm), trivial⟩⟩
      · skip
        have h2 := r2
        have h2 := bif_f r1 h2
        have h2 := of_decide_eq_false h2
        try simp only [Int.toNat_natCast] at h2
        refine hw_skip ?_; show HW _ _ _ _ _; refine hw_joinK (ι := Unit) ⟨[], []⟩ ⟨trivial, trivial⟩ (fun _i => ⟨[], []⟩) (fun _i => isNm s = true) ?_ ?_
        · skip
          refine hw_seq ?_; refine hw_region (E := TryzE) Tryzok ?_; (iterate 3 refine rq rfl rfl rfl rfl rfl ?_); refine rg_nil ?_; show HW _ _ _ _ _; refine hw_block ?_
          refine hw_loopK (ι := Nat) ⟨[(0, some _), (18, some _)], []⟩ ⟨⟨⟨_, rfl, CoR.refl _⟩, ⟨_, rfl, CoR.refl _⟩, trivial⟩, trivial⟩ (fun i => ⟨[(19, some (vI i))], []⟩) (fun i => i ≤ s.size ∧ (∀ j, j < i → (ltr (byteAt s j) || dig (byteAt s j)) = true) ∧ (0 < i → ltr (byteAt s 0) = true)) (fun i => s.size - i) (0) (⟨Nat.zero_le _, all_zero, fun h => by omega⟩) ⟨⟨⟨_, rfl, (by first | exact CoR.refl _ | exact coi (by omega) | exact cob (by simp_all))⟩, trivial⟩, trivial⟩ ?_
          rintro i ⟨hi, hI, hz⟩
          refine hw_seq ?_; refine hw_region (E := TryzE) Tryzok ?_; refine rq rfl rfl rfl rfl rfl ?_; refine rg_nil ?_; show HW _ _ _ _ _; refine hw_seq ?_; refine hw_cond _ rfl (fun r3 => ?_) (fun r3 => ?_)
          · skip
            have h3 := r3
            have h3 := of_decide_eq_true h3
            try simp only [Int.toNat_natCast] at h3
            refine hw_skip ?_; show HW _ _ _ _ _; refine hw_seq ?_; refine hw_block ?_; refine hw_seq ?_; refine hw_region (E := TryzE) Tryzok ?_; (iterate 2 refine rq rfl rfl rfl rfl rfl ?_); refine rg_nil ?_; show HW _ _ _ _ _
            refine hw_seq ?_; refine hw_region (E := TryzE) Tryzok ?_; (iterate 4 refine rq rfl rfl rfl rfl rfl ?_); refine rg_nil ?_; show HW _ _ _ _ _
            refine hw_joinK (ι := Unit) ⟨[(0, some _), (3, some _), (4, some _), (18, some _), (19, some _)], []⟩ ⟨⟨⟨_, rfl, CoR.refl _⟩, ⟨_, rfl, CoR.refl _⟩, ⟨_, rfl, CoR.refl _⟩, ⟨_, rfl, CoR.refl _⟩, ⟨_, rfl, CoR.refl _⟩, trivial⟩, trivial⟩ (fun _i => ⟨[(5, some (vB (ltr (byteAt s i))))], []⟩) (fun _i => True) ?_ ?_
            · skip
              refine hw_region (E := TryzE) Tryzok ?_; (iterate 3 refine rq rfl rfl rfl rfl rfl ?_); refine rsplit rfl rfl (fun r4 => ?_) (fun r4 => ?_)
              · skip
                have h4 := r4
                have h4 := of_decide_eq_true h4
                try simp only [Int.toNat_natCast] at h4
                (iterate 2 refine rq rfl rfl rfl rfl (gtt r4) ?_); (iterate 2 refine rq rfl rfl rfl rfl rfl ?_); refine rsplit rfl rfl (fun r5 => ?_) (fun r5 => ?_)
                · skip
                  have h5 := r5
                  have h5 := bif_t r4 h5
                  have h5 := of_decide_eq_true h5
                  try simp only [Int.toNat_natCast] at h5
                  (iterate 3 refine rk rfl rfl rfl (gtf r5) ?_); (iterate 2 refine rk rfl rfl rfl rfl ?_); refine rk rfl rfl rfl (gtf r5) ?_; refine rq rfl rfl rfl rfl rfl ?_ (hp := r5); refine rq rfl rfl rfl rfl rfl ?_
                  (iterate 2 refine rk rfl rfl rfl rfl ?_); (iterate 2 refine rq rfl rfl rfl rfl rfl ?_); refine rg_nil ?_; refine ⟨(), ?_, ?_⟩
                  · trivial
                  · exact ⟨⟨⟨_, rfl, (cob (by simp [ltr, *]))⟩, ⟨_, rfl, CoR.refl _⟩, ⟨_, rfl, CoR.refl _⟩, ⟨_, rfl, CoR.refl _⟩, ⟨_, rfl, CoR.refl _⟩, ⟨_, rfl, CoR.refl _⟩, trivial⟩, trivial⟩
                · skip
                  have h5 := r5
                  have h5 := bif_t r4 h5
                  have h5 := of_decide_eq_false h5
                  try simp only [Int.toNat_natCast] at h5
                  (iterate 3 refine rq rfl rfl rfl rfl (gff r5) ?_); refine rsplit rfl rfl (fun r6 => ?_) (fun r6 => ?_)
                  · skip
                    have h6 := r6
                    have h6 := of_decide_eq_true h6
                    try simp only [Int.toNat_natCast] at h6
                    (iterate 2 refine rq rfl rfl rfl rfl (gtt r6) ?_); refine rq rfl rfl rfl rfl (gff r5) ?_; (iterate 2 refine rq rfl rfl rfl rfl rfl ?_); refine rsplit rfl rfl (fun r7 => ?_) (fun r7 => ?_)
                    · skip
                      have h7 := r7
                      have h7 := bif_f r5 h7
                      have h7 := bif_t r6 h7
                      have h7 := of_decide_eq_true h7
                      try simp only [Int.toNat_natCast] at h7
                      (iterate 2 refine rk rfl rfl rfl (gtf r7) ?_); refine rq rfl rfl rfl rfl rfl ?_ (hp := r7); refine rq rfl rfl rfl rfl rfl ?_; refine rg_nil ?_; refine ⟨(), ?_, ?_⟩
                      · trivial
                      · exact ⟨⟨⟨_, rfl, (cob (by simp [ltr, *]))⟩, ⟨_, rfl, CoR.refl _⟩, ⟨_, rfl, CoR.refl _⟩, ⟨_, rfl, CoR.refl _⟩, ⟨_, rfl, CoR.refl _⟩, ⟨_, rfl, CoR.refl _⟩, trivial⟩, trivial⟩
                    · skip
                      have h7 := r7
                      have h7 := bif_f r5 h7
                      have h7 := bif_t r6 h7
                      have h7 := of_decide_eq_false h7
                      try simp only [Int.toNat_natCast] at h7
                      (iterate 2 refine rq rfl rfl rfl rfl (gff r7) ?_); (iterate 2 refine rq rfl rfl rfl rfl rfl ?_); refine rg_nil ?_; refine ⟨(), ?_, ?_⟩
                      · trivial
                      · exact ⟨⟨⟨_, rfl, (cob (by simp [ltr, *]))⟩, ⟨_, rfl, CoR.refl _⟩, ⟨_, rfl, CoR.refl _⟩, ⟨_, rfl, CoR.refl _⟩, ⟨_, rfl, CoR.refl _⟩, ⟨_, rfl, CoR.refl _⟩, trivial⟩, trivial⟩
                  · skip
                    have h6 := r6
                    have h6 := of_decide_eq_false h6
                    try simp only [Int.toNat_natCast] at h6
                    (iterate 2 refine rk rfl rfl rfl (gft r6) ?_); refine rq rfl rfl rfl rfl (gff r5) ?_ (hp := r6); (iterate 2 refine rq rfl rfl rfl rfl rfl ?_); (iterate 2 refine rq rfl rfl rfl rfl (gff (bif_fk r5 rfl)) ?_)
                    (iterate 2 refine rq rfl rfl rfl rfl rfl ?_); refine rg_nil ?_; refine ⟨(), ?_, ?_⟩
                    · trivial
                    · exact ⟨⟨⟨_, rfl, (cob (by simp [ltr, *]))⟩, ⟨_, rfl, CoR.refl _⟩, ⟨_, rfl, CoR.refl _⟩, ⟨_, rfl, CoR.refl _⟩, ⟨_, rfl, CoR.refl _⟩, ⟨_, rfl, CoR.refl _⟩, trivial⟩, trivial⟩
              · skip
                have h4 := r4
                have h4 := of_decide_eq_false h4
                try simp only [Int.toNat_natCast] at h4
                (iterate 2 refine rk rfl rfl rfl (gft r4) ?_); refine rq rfl rfl rfl rfl rfl ?_ (hp := r4); (iterate 4 refine rq rfl rfl rfl rfl rfl ?_); refine rsplit rfl rfl (fun r8 => ?_) (fun r8 => ?_)
                · skip
                  have h8 := r8
                  have h8 := of_decide_eq_true h8
                  try simp only [Int.toNat_natCast] at h8
                  (iterate 2 refine rq rfl rfl rfl rfl (gtt r8) ?_); (iterate 3 refine rq rfl rfl rfl rfl rfl ?_); refine rsplit rfl rfl (fun r9 => ?_) (fun r9 => ?_)
                  · skip
                    have h9 := r9
                    have h9 := bif_t r8 h9
                    have h9 := of_decide_eq_true h9
                    try simp only [Int.toNat_natCast] at h9
                    (iterate 2 refine rk rfl rfl rfl (gtf r9) ?_); refine rq rfl rfl rfl rfl rfl ?_ (hp := r9); refine rq rfl rfl rfl rfl rfl ?_; refine rg_nil ?_; refine ⟨(), ?_, ?_⟩
                    · trivial
                    · exact ⟨⟨⟨_, rfl, (cob (by simp [ltr, *]))⟩, ⟨_, rfl, CoR.refl _⟩, ⟨_, rfl, CoR.refl _⟩, ⟨_, rfl, CoR.refl _⟩, ⟨_, rfl, CoR.refl _⟩, ⟨_, rfl, CoR.refl _⟩, trivial⟩, trivial⟩
                  · skip
                    have h9 := r9
                    have h9 := bif_t r8 h9
                    have h9 := of_decide_eq_false h9
                    try simp only [Int.toNat_natCast] at h9
                    (iterate 2 refine rq rfl rfl rfl rfl (gff r9) ?_); (iterate 2 refine rq rfl rfl rfl rfl rfl ?_); refine rg_nil ?_; refine ⟨(), ?_, ?_⟩
                    · trivial
                    · exact ⟨⟨⟨_, rfl, (cob (by simp [ltr, *]))⟩, ⟨_, rfl, CoR.refl _⟩, ⟨_, rfl, CoR.refl _⟩, ⟨_, rfl, CoR.refl _⟩, ⟨_, rfl, CoR.refl _⟩, ⟨_, rfl, CoR.refl _⟩, trivial⟩, trivial⟩
                · skip
                  have h8 := r8
                  have h8 := of_decide_eq_false h8
                  try simp only [Int.toNat_natCast] at h8
                  (iterate 2 refine rk rfl rfl rfl (gft r8) ?_); refine rq rfl rfl rfl rfl rfl ?_ (hp := r8); (iterate 2 refine rq rfl rfl rfl rfl rfl ?_); (iterate 2 refine rq rfl rfl rfl rfl (gff (bif_fk rfl rfl)) ?_)
                  (iterate 2 refine rq rfl rfl rfl rfl rfl ?_); refine rg_nil ?_; refine ⟨(), ?_, ?_⟩
                  · trivial
                  · exact ⟨⟨⟨_, rfl, (cob (by simp [ltr, *]))⟩, ⟨_, rfl, CoR.refl _⟩, ⟨_, rfl, CoR.refl _⟩, ⟨_, rfl, CoR.refl _⟩, ⟨_, rfl, CoR.refl _⟩, ⟨_, rfl, CoR.refl _⟩, trivial⟩, trivial⟩
            · rintro _ _
              refine hw_seq ?_; refine hw_region (E := TryzE) Tryzok ?_; (iterate 3 refine rq rfl rfl rfl rfl rfl ?_); refine rsplit rfl rfl (fun r10 => ?_) (fun r10 => ?_)
              · skip
                have h10 := r10
                have h10 := not_t h10
                (iterate 3 refine rq rfl rfl rfl rfl (gtt r10) ?_); refine rsplit rfl rfl (fun r11 => ?_) (fun r11 => ?_)
                · skip
                  have h11 := r11
                  have h11 := of_decide_eq_true h11
                  try simp only [Int.toNat_natCast] at h11
                  (iterate 2 refine rk rfl rfl rfl (gtf r11) ?_); refine rq rfl rfl rfl rfl (gtt r10) ?_ (hp := r11); refine rq rfl rfl rfl rfl (gtt r10) ?_; (iterate 2 refine rk rfl rfl rfl rfl ?_)
                  refine rq rfl rfl rfl rfl (gtt r10) ?_; refine rq rfl rfl rfl rfl rfl ?_; refine rg_nil ?_; show HW _ _ _ _ _; refine hw_cond _ rfl (fun _ => ?_) (fun e => Bool.noConfusion ((bif_tk r10 rfl).symm.trans e))
                  refine hw_seq ?_; refine hw_region (E := TryzE) Tryzok ?_; refine rq rfl rfl rfl rfl rfl ?_; refine rg_nil ?_; show HW _ _ _ _ _; refine hw_ret ?_; refine ⟨.inr rfl, ?_⟩
                  exact ⟨_, _, _, _, rfl, (by (repeat' apply And.intro) <;> first | trivial | exact Nat.le_of_ble_eq_true rfl | rfl), rfl, (by (repeat' apply And.intro) <;> first | trivial | exact Nat.le_of_ble_eq_true rfl | rfl), ⟨ccb (by first | exact (isNm_ltr2 (i := i) (by assumption) (by assumption)).symm | exact (isNm_rest (i := i) (by omega) (by assumption) (by simp [dig, *] <;> omega)).symm), trivial⟩⟩
                · skip
                  have h11 := r11
                  have h11 := of_decide_eq_false h11
                  try simp only [Int.toNat_natCast] at h11
                  (iterate 2 refine rq rfl rfl rfl rfl (gff r11) ?_); (iterate 2 refine rq rfl rfl rfl rfl (gtt r10) ?_); refine rsplit rfl rfl (fun r12 => ?_) (fun r12 => ?_)
                  · skip
                    have h12 := r12
                    have h12 := bif_f r11 h12
                    have h12 := of_decide_eq_true h12
                    try simp only [Int.toNat_natCast] at h12
                    (iterate 2 refine rk rfl rfl rfl (gtf r12) ?_); refine rq rfl rfl rfl rfl (gtt r10) ?_ (hp := r12); refine rq rfl rfl rfl rfl rfl ?_; refine rg_nil ?_; show HW _ _ _ _ _
                    refine hw_cond _ rfl (fun _ => ?_) (fun e => Bool.noConfusion ((bif_tk r10 rfl).symm.trans e)); refine hw_seq ?_; refine hw_region (E := TryzE) Tryzok ?_; refine rq rfl rfl rfl rfl rfl ?_; refine rg_nil ?_
                    show HW _ _ _ _ _; refine hw_ret ?_; refine ⟨.inr rfl, ?_⟩
                    exact ⟨_, _, _, _, rfl, (by (repeat' apply And.intro) <;> first | trivial | exact Nat.le_of_ble_eq_true rfl | rfl), rfl, (by (repeat' apply And.intro) <;> first | trivial | exact Nat.le_of_ble_eq_true rfl | rfl), ⟨ccb (by first | exact (isNm_ltr2 (i := i) (by assumption) (by assumption)).symm | exact (isNm_rest (i := i) (by omega) (by assumption) (by simp [dig, *] <;> omega)).symm), trivial⟩⟩
                  · skip
                    have h12 := r12
                    have h12 := bif_f r11 h12
                    have h12 := of_decide_eq_false h12
                    try simp only [Int.toNat_natCast] at h12
                    (iterate 2 refine rq rfl rfl rfl rfl (gff r12) ?_); refine rq rfl rfl rfl rfl (gtt r10) ?_; refine rq rfl rfl rfl rfl rfl ?_; refine rg_nil ?_; show HW _ _ _ _ _
                    refine hw_cond _ rfl (fun r13 => ?_) (fun r13 => ?_)
                    · skip
                      have h13 := r13
                      have h13 := bif_t r10 h13
                      have h13 := bif_f r12 h13
                      have h13 := of_decide_eq_true h13
                      try simp only [Int.toNat_natCast] at h13
                      refine hw_seq ?_; refine hw_region (E := TryzE) Tryzok ?_; refine rq rfl rfl rfl rfl rfl ?_; refine rg_nil ?_; show HW _ _ _ _ _; refine hw_ret ?_; refine ⟨.inr rfl, ?_⟩
                      exact ⟨_, _, _, _, rfl, (by (repeat' apply And.intro) <;> first | trivial | exact Nat.le_of_ble_eq_true rfl | rfl), rfl, (by (repeat' apply And.intro) <;> first | trivial | exact Nat.le_of_ble_eq_true rfl | rfl), ⟨ccb (by first | exact (isNm_ltr2 (i := i) (by assumption) (by assumption)).symm | exact (isNm_rest (i := i) (by omega) (by assumption) (by simp [dig, *] <;> omega)).symm), trivial⟩⟩
                    · skip
                      have h13 := r13
                      have h13 := bif_t r10 h13
                      have h13 := bif_f r12 h13
                      have h13 := of_decide_eq_false h13
                      try simp only [Int.toNat_natCast] at h13
                      refine hw_skip ?_; show HW _ _ _ _ _; refine hw_region (E := TryzE) Tryzok ?_; (iterate 2 refine rq rfl rfl rfl rfl rfl ?_); refine rg_nil ?_; refine ⟨i + 1, ?_, ?_, ?_⟩
                      · exact ⟨by omega, all_succ hI (by simp_all [dig] <;> omega), fun _ => lead hz (fun e => by first | assumption | (exfalso; omega))⟩
                      · first | omega | (dsimp only; omega)
                      · exact ⟨⟨⟨_, rfl, (by first | exact CoR.refl _ | exact coi (by omega) | exact cob (by simp_all))⟩, ⟨_, rfl, CoR.refl _⟩, ⟨_, rfl, CoR.refl _⟩, trivial⟩, trivial⟩
              · skip
                have h10 := r10
                have h10 := not_f h10
                (iterate 3 refine rk rfl rfl rfl (gft r10) ?_); (iterate 2 refine rk rfl rfl rfl rfl ?_); (iterate 2 refine rk rfl rfl rfl (gft r10) ?_); (iterate 2 refine rk rfl rfl rfl rfl ?_); refine rk rfl rfl rfl (gft r10) ?_
                refine rq rfl rfl rfl rfl rfl ?_ (hp := r10); refine rg_nil ?_; show HW _ _ _ _ _; refine hw_cond _ rfl (fun e => by cases e) (fun _ => ?_); refine hw_skip ?_; show HW _ _ _ _ _
                refine hw_region (E := TryzE) Tryzok ?_; (iterate 2 refine rq rfl rfl rfl rfl rfl ?_); refine rg_nil ?_; refine ⟨i + 1, ?_, ?_, ?_⟩
                · exact ⟨by omega, all_succ hI (by simp_all [dig] <;> omega), fun _ => lead hz (fun e => by first | assumption | (exfalso; omega))⟩
                · first | omega | (dsimp only; omega)
                · exact ⟨⟨⟨_, rfl, (by first | exact CoR.refl _ | exact coi (by omega) | exact cob (by simp_all))⟩, ⟨_, rfl, CoR.refl _⟩, ⟨_, rfl, CoR.refl _⟩, trivial⟩, trivial⟩
          · skip
            have h3 := r3
            have h3 := of_decide_eq_false h3
            try simp only [Int.toNat_natCast] at h3
            refine hw_exit ?_; refine ⟨(), ?_, ?_⟩
            · exact isNm_t (fun e => absurd ((size_emp (s := s)).1 e) (by assumption)) (by omega) (hz (Nat.pos_of_ne_zero (fun e => absurd ((size_emp (s := s)).1 (by omega)) (by assumption)))) (by assumption) (fun j hj => hI j (by omega))
            · exact ⟨trivial, trivial⟩
        · rintro _ hj
          refine hw_seq ?_; refine hw_region (E := TryzE) Tryzok ?_; refine rq rfl rfl rfl rfl rfl ?_; refine rg_nil ?_; show HW _ _ _ _ _; refine hw_ret ?_; refine ⟨.inr rfl, ?_⟩
          exact ⟨_, _, _, _, rfl, (by (repeat' apply And.intro) <;> first | trivial | exact Nat.le_of_ble_eq_true rfl | rfl), rfl, (by (repeat' apply And.intro) <;> first | trivial | exact Nat.le_of_ble_eq_true rfl | rfl), ⟨ccb hj.symm, trivial⟩⟩
theorem good115 : goodFn Tryz.prog 115 := ⟨Tryz.f115, Tryz.func115, by kernel_rfl, by kernel_rfl⟩
theorem c115 (l : List ByteArray) (s : ByteArray) : HPure Tryz.prog 115 [pP (strs l), pS s] (prOf [pI (atIx l s)]) := by
  refine hpure_of (nt := 19) Tryzok Tryz.func115 rfl rfl (Nat.le_of_ble_eq_true rfl) ?_; refine hw_bt 0 rfl (fun hn => ?_); refine hw_seq ?_; refine hw_region (E := TryzE) Tryzok ?_; refine rq rfl rfl rfl rfl rfl ?_
  refine rg_nil ?_; show HW _ _ _ _ _; refine hw_joinK (ι := Unit) ⟨[], []⟩ ⟨trivial, trivial⟩ (fun _i => ⟨[], []⟩) (fun _i => atIx l s = -1) ?_ ?_
  · skip
    refine hw_seq ?_; refine hw_region (E := TryzE) Tryzok ?_; (iterate 3 refine rq rfl rfl rfl rfl rfl ?_); refine rg_nil ?_; show HW _ _ _ _ _; refine hw_block ?_
    refine hw_loopK (ι := Nat) ⟨[(0, some _), (1, some _), (7, some _)], []⟩ ⟨⟨⟨_, rfl, CoR.refl _⟩, ⟨_, rfl, CoR.refl _⟩, ⟨_, rfl, CoR.refl _⟩, trivial⟩, trivial⟩ (fun i => ⟨[(8, some (vI i))], []⟩) (fun i => i ≤ l.length ∧ ∀ j, j < i → decide (l.getD j default = s) = false) (fun i => l.length - i) (0) (⟨Nat.zero_le _, all_zero⟩) ⟨⟨⟨_, rfl, (by first | exact CoR.refl _ | exact coi (by omega) | exact cob (by simp_all))⟩, trivial⟩, trivial⟩ ?_
    rintro i ⟨hi, hI⟩
    refine hw_seq ?_; refine hw_region (E := TryzE) Tryzok ?_; refine rq rfl rfl rfl rfl rfl ?_; refine rg_nil ?_; show HW _ _ _ _ _; refine hw_seq ?_; refine hw_cond _ rfl (fun r0 => ?_) (fun r0 => ?_)
    · skip
      have h0 := r0
      have h0 := of_decide_eq_true h0
      try simp only [Int.toNat_natCast] at h0
      refine hw_skip ?_; show HW _ _ _ _ _; refine hw_seq ?_; refine hw_block ?_; refine hw_seq ?_; refine hw_region (E := TryzE) Tryzok ?_; (iterate 2 refine rq rfl rfl rfl rfl rfl ?_); refine rg_nil ?_; show HW _ _ _ _ _
      refine hw_seq ?_; refine hw_region (E := TryzE) Tryzok ?_; (iterate 6 refine rq rfl rfl rfl rfl rfl ?_); refine rg_nil ?_; show HW _ _ _ _ _; refine hw_cond _ rfl (fun r1 => ?_) (fun r1 => ?_)
      · skip
        have h1 := r1
        have h1 := of_decide_eq_true h1
        try simp only [Int.toNat_natCast] at h1
        refine hw_seq ?_; refine hw_region (E := TryzE) Tryzok ?_; (iterate 2 refine rq rfl rfl rfl rfl rfl ?_); refine rg_nil ?_; show HW _ _ _ _ _; refine hw_ret ?_; refine ⟨.inr rfl, ?_⟩
        exact ⟨_, _, _, _, rfl, (by (repeat' apply And.intro) <;> first | trivial | exact Nat.le_of_ble_eq_true rfl | rfl), rfl, (by (repeat' apply And.intro) <;> first | trivial | exact Nat.le_of_ble_eq_true rfl | rfl), ⟨cci (idx_t (p := fun x => decide (x = s)) (i := i) (by omega) hI (decide_eq_true h1.symm)).symm, trivial⟩⟩
      · skip
        have h1 := r1
        have h1 := of_decide_eq_false h1
        try simp only [Int.toNat_natCast] at h1
        refine hw_skip ?_; show HW _ _ _ _ _; refine hw_region (E := TryzE) Tryzok ?_; (iterate 2 refine rq rfl rfl rfl rfl rfl ?_); refine rg_nil ?_; refine ⟨i + 1, ?_, ?_, ?_⟩
        · exact ⟨by omega, all_succ hI (decide_eq_false fun e => h1 e.symm)⟩
        · first | omega | (dsimp only; omega)
        · exact ⟨⟨⟨_, rfl, (by first | exact CoR.refl _ | exact coi (by omega) | exact cob (by simp_all))⟩, ⟨_, rfl, CoR.refl _⟩, ⟨_, rfl, CoR.refl _⟩, ⟨_, rfl, CoR.refl _⟩, trivial⟩, trivial⟩
    · skip
      have h0 := r0
      have h0 := of_decide_eq_false h0
      try simp only [Int.toNat_natCast] at h0
      refine hw_exit ?_; refine ⟨(), ?_, ?_⟩
      · exact idx_f (p := fun x => decide (x = s)) fun j hj => hI j (by omega)
      · exact ⟨trivial, trivial⟩
  · rintro _ hj
    refine hw_seq ?_; refine hw_region (E := TryzE) Tryzok ?_; refine rq rfl rfl rfl rfl rfl ?_; refine rg_nil ?_; show HW _ _ _ _ _; refine hw_ret ?_; refine ⟨.inr rfl, ?_⟩
    exact ⟨_, _, _, _, rfl, (by (repeat' apply And.intro) <;> first | trivial | exact Nat.le_of_ble_eq_true rfl | rfl), rfl, (by (repeat' apply And.intro) <;> first | trivial | exact Nat.le_of_ble_eq_true rfl | rfl), ⟨cci hj.symm, trivial⟩⟩
theorem good105 : goodFn Tryz.prog 105 := ⟨Tryz.f105, Tryz.func105, by kernel_rfl, by kernel_rfl⟩
theorem c105 (l : List ByteArray) (s : ByteArray) : HPure Tryz.prog 105 [pP (strs l), pS s] (prOf [pB (decide (0 ≤ atIx l s))]) := by
  refine hpure_of (nt := 9) Tryzok Tryz.func105 rfl rfl (Nat.le_of_ble_eq_true rfl) ?_; refine hw_seq ?_; refine hw_region (E := TryzE) Tryzok ?_; refine rq rfl rfl rfl rfl rfl ?_; refine rg_nil ?_; show HW _ _ _ _ _
  refine hw_seq ?_; refine hw_region (E := TryzE) Tryzok ?_; (iterate 2 refine rq rfl rfl rfl rfl rfl ?_); refine rc rfl rfl rfl rfl rfl rfl good115 (c115 _ _) (CoL.refl _) rfl rfl ?_; (iterate 2 refine rq rfl rfl rfl rfl rfl ?_)
  refine rg_nil ?_; show HW _ _ _ _ _; refine hw_ret ?_; refine ⟨.inr rfl, ?_⟩
  exact ⟨_, _, _, _, rfl, (by (repeat' apply And.intro) <;> first | trivial | exact Nat.le_of_ble_eq_true rfl | rfl), rfl, (by (repeat' apply And.intro) <;> first | trivial | exact Nat.le_of_ble_eq_true rfl | rfl), CoL.refl _⟩
theorem good116 : goodFn Tryz.prog 116 := ⟨Tryz.f116, Tryz.func116, by kernel_rfl, by kernel_rfl⟩
theorem c116 (l : List Val) (g k : Nat) (caps : Nat → PV) (V : Val → Bool) (hg : goodFn Tryz.prog g) (hV : ∀ i, i < l.length → HPure Tryz.prog g ((l.getD i default).pc :: capsOf caps k 0) (prOf [pB (V (l.getD i default))])) : HPure Tryz.prog 116 [pP (vals l), pP (.fn g k caps)] (prOf [pI (idx V l)]) := by
  refine hpure_of (nt := 19) Tryzok Tryz.func116 rfl rfl (Nat.le_of_ble_eq_true rfl) ?_; refine hw_bt 0 rfl (fun hn => ?_); refine hw_seq ?_; refine hw_region (E := TryzE) Tryzok ?_; refine rq rfl rfl rfl rfl rfl ?_
  refine rg_nil ?_; show HW _ _ _ _ _; refine hw_joinK (ι := Unit) ⟨[], []⟩ ⟨trivial, trivial⟩ (fun _i => ⟨[], []⟩) (fun _i => idx V l = -1) ?_ ?_
  · skip
    refine hw_seq ?_; refine hw_region (E := TryzE) Tryzok ?_; (iterate 3 refine rq rfl rfl rfl rfl rfl ?_); refine rg_nil ?_; show HW _ _ _ _ _; refine hw_block ?_
    refine hw_loopK (ι := Nat) ⟨[(0, some _), (1, some _), (7, some _)], []⟩ ⟨⟨⟨_, rfl, CoR.refl _⟩, ⟨_, rfl, CoR.refl _⟩, ⟨_, rfl, CoR.refl _⟩, trivial⟩, trivial⟩ (fun i => ⟨[(8, some (vI i))], []⟩) (fun i => i ≤ l.length ∧ ∀ j, j < i → V (l.getD j default) = false) (fun i => l.length - i) (0) (⟨Nat.zero_le _, all_zero⟩) ⟨⟨⟨_, rfl, (by first | exact CoR.refl _ | exact coi (by omega) | exact cob (by simp_all))⟩, trivial⟩, trivial⟩ ?_
    rintro i ⟨hi, hI⟩
    refine hw_seq ?_; refine hw_region (E := TryzE) Tryzok ?_; refine rq rfl rfl rfl rfl rfl ?_; refine rg_nil ?_; show HW _ _ _ _ _; refine hw_seq ?_; refine hw_cond _ rfl (fun r0 => ?_) (fun r0 => ?_)
    · skip
      have h0 := r0
      have h0 := of_decide_eq_true h0
      try simp only [Int.toNat_natCast] at h0
      refine hw_skip ?_; show HW _ _ _ _ _; refine hw_seq ?_; refine hw_block ?_; refine hw_seq ?_; refine hw_region (E := TryzE) Tryzok ?_; (iterate 2 refine rq rfl rfl rfl rfl rfl ?_); refine rg_nil ?_; show HW _ _ _ _ _
      refine hw_seq ?_; refine hw_region (E := TryzE) Tryzok ?_; (iterate 5 refine rq rfl rfl rfl rfl rfl ?_); refine rc rfl rfl rfl rfl rfl rfl hg (hV i (by omega)) (CoL.refl _) rfl rfl ?_; refine rg_nil ?_; show HW _ _ _ _ _
      refine hw_cond _ rfl (fun r1 => ?_) (fun r1 => ?_)
      · skip
        have h1 := r1
        refine hw_seq ?_; refine hw_region (E := TryzE) Tryzok ?_; (iterate 2 refine rq rfl rfl rfl rfl rfl ?_); refine rg_nil ?_; show HW _ _ _ _ _; refine hw_ret ?_; refine ⟨.inr rfl, ?_⟩
        exact ⟨_, _, _, _, rfl, (by (repeat' apply And.intro) <;> first | trivial | exact Nat.le_of_ble_eq_true rfl | rfl), rfl, (by (repeat' apply And.intro) <;> first | trivial | exact Nat.le_of_ble_eq_true rfl | rfl), ⟨cci (idx_t (i := i) (by omega) hI h1).symm, trivial⟩⟩
      · skip
        have h1 := r1
        refine hw_skip ?_; show HW _ _ _ _ _; refine hw_region (E := TryzE) Tryzok ?_; (iterate 2 refine rq rfl rfl rfl rfl rfl ?_); refine rg_nil ?_; refine ⟨i + 1, ?_, ?_, ?_⟩
        · exact ⟨by omega, all_succ hI (h1)⟩
        · first | omega | (dsimp only; omega)
        · exact ⟨⟨⟨_, rfl, (by first | exact CoR.refl _ | exact coi (by omega) | exact cob (by simp_all))⟩, ⟨_, rfl, CoR.refl _⟩, ⟨_, rfl, CoR.refl _⟩, ⟨_, rfl, CoR.refl _⟩, trivial⟩, trivial⟩
    · skip
      have h0 := r0
      have h0 := of_decide_eq_false h0
      try simp only [Int.toNat_natCast] at h0
      refine hw_exit ?_; refine ⟨(), ?_, ?_⟩
      · exact idx_f fun j hj => hI j (by omega)
      · exact ⟨trivial, trivial⟩
  · rintro _ hj
    refine hw_seq ?_; refine hw_region (E := TryzE) Tryzok ?_; refine rq rfl rfl rfl rfl rfl ?_; refine rg_nil ?_; show HW _ _ _ _ _; refine hw_ret ?_; refine ⟨.inr rfl, ?_⟩
    exact ⟨_, _, _, _, rfl, (by (repeat' apply And.intro) <;> first | trivial | exact Nat.le_of_ble_eq_true rfl | rfl), rfl, (by (repeat' apply And.intro) <;> first | trivial | exact Nat.le_of_ble_eq_true rfl | rfl), ⟨cci hj.symm, trivial⟩⟩
theorem good91 : goodFn Tryz.prog 91 := ⟨Tryz.f91, Tryz.func91, by kernel_rfl, by kernel_rfl⟩
theorem c91 (l : List Row) (g k : Nat) (caps : Nat → PV) (V : Row → Bool) (hg : goodFn Tryz.prog g) (hV : ∀ i, i < l.length → HPure Tryz.prog g ((l.getD i default).pc :: capsOf caps k 0) (prOf [pB (V (l.getD i default))])) : HPure Tryz.prog 91 [pP (rows l), pP (.fn g k caps)] (prOf [pI (idx V l)]) := by
  refine hpure_of (nt := 19) Tryzok Tryz.func91 rfl rfl (Nat.le_of_ble_eq_true rfl) ?_; refine hw_bt 0 rfl (fun hn => ?_); refine hw_seq ?_; refine hw_region (E := TryzE) Tryzok ?_; refine rq rfl rfl rfl rfl rfl ?_; refine rg_nil ?_
  show HW _ _ _ _ _; refine hw_joinK (ι := Unit) ⟨[], []⟩ ⟨trivial, trivial⟩ (fun _i => ⟨[], []⟩) (fun _i => idx V l = -1) ?_ ?_
  · skip
    refine hw_seq ?_; refine hw_region (E := TryzE) Tryzok ?_; (iterate 3 refine rq rfl rfl rfl rfl rfl ?_); refine rg_nil ?_; show HW _ _ _ _ _; refine hw_block ?_
    refine hw_loopK (ι := Nat) ⟨[(0, some _), (1, some _), (7, some _)], []⟩ ⟨⟨⟨_, rfl, CoR.refl _⟩, ⟨_, rfl, CoR.refl _⟩, ⟨_, rfl, CoR.refl _⟩, trivial⟩, trivial⟩ (fun i => ⟨[(8, some (vI i))], []⟩) (fun i => i ≤ l.length ∧ ∀ j, j < i → V (l.getD j default) = false) (fun i => l.length - i) (0) (⟨Nat.zero_le _, all_zero⟩) ⟨⟨⟨_, rfl, (by first | exact CoR.refl _ | exact coi (by omega) | exact cob (by simp_all))⟩, trivial⟩, trivial⟩ ?_
    rintro i ⟨hi, hI⟩
    refine hw_seq ?_; refine hw_region (E := TryzE) Tryzok ?_; refine rq rfl rfl rfl rfl rfl ?_; refine rg_nil ?_; show HW _ _ _ _ _; refine hw_seq ?_; refine hw_cond _ rfl (fun r0 => ?_) (fun r0 => ?_)
    · skip
      have h0 := r0
      have h0 := of_decide_eq_true h0
      try simp only [Int.toNat_natCast] at h0
      refine hw_skip ?_; show HW _ _ _ _ _; refine hw_seq ?_; refine hw_block ?_; refine hw_seq ?_; refine hw_region (E := TryzE) Tryzok ?_; (iterate 2 refine rq rfl rfl rfl rfl rfl ?_); refine rg_nil ?_; show HW _ _ _ _ _
      refine hw_seq ?_; refine hw_region (E := TryzE) Tryzok ?_; (iterate 5 refine rq rfl rfl rfl rfl rfl ?_); refine rc rfl rfl rfl rfl rfl rfl hg (hV i (by omega)) (CoL.refl _) rfl rfl ?_; refine rg_nil ?_; show HW _ _ _ _ _
      refine hw_cond _ rfl (fun r1 => ?_) (fun r1 => ?_)
      · skip
        have h1 := r1
        refine hw_seq ?_; refine hw_region (E := TryzE) Tryzok ?_; (iterate 2 refine rq rfl rfl rfl rfl rfl ?_); refine rg_nil ?_; show HW _ _ _ _ _; refine hw_ret ?_; refine ⟨.inr rfl, ?_⟩
        exact ⟨_, _, _, _, rfl, (by (repeat' apply And.intro) <;> first | trivial | exact Nat.le_of_ble_eq_true rfl | rfl), rfl, (by (repeat' apply And.intro) <;> first | trivial | exact Nat.le_of_ble_eq_true rfl | rfl), ⟨cci (idx_t (i := i) (by omega) hI h1).symm, trivial⟩⟩
      · skip
        have h1 := r1
        refine hw_skip ?_; show HW _ _ _ _ _; refine hw_region (E := TryzE) Tryzok ?_; (iterate 2 refine rq rfl rfl rfl rfl rfl ?_); refine rg_nil ?_; refine ⟨i + 1, ?_, ?_, ?_⟩
        · exact ⟨by omega, all_succ hI (h1)⟩
        · first | omega | (dsimp only; omega)
        · exact ⟨⟨⟨_, rfl, (by first | exact CoR.refl _ | exact coi (by omega) | exact cob (by simp_all))⟩, ⟨_, rfl, CoR.refl _⟩, ⟨_, rfl, CoR.refl _⟩, ⟨_, rfl, CoR.refl _⟩, trivial⟩, trivial⟩
    · skip
      have h0 := r0
      have h0 := of_decide_eq_false h0
      try simp only [Int.toNat_natCast] at h0
      refine hw_exit ?_; refine ⟨(), ?_, ?_⟩
      · exact idx_f fun j hj => hI j (by omega)
      · exact ⟨trivial, trivial⟩
  · rintro _ hj
    refine hw_seq ?_; refine hw_region (E := TryzE) Tryzok ?_; refine rq rfl rfl rfl rfl rfl ?_; refine rg_nil ?_; show HW _ _ _ _ _; refine hw_ret ?_; refine ⟨.inr rfl, ?_⟩
    exact ⟨_, _, _, _, rfl, (by (repeat' apply And.intro) <;> first | trivial | exact Nat.le_of_ble_eq_true rfl | rfl), rfl, (by (repeat' apply And.intro) <;> first | trivial | exact Nat.le_of_ble_eq_true rfl | rfl), ⟨cci hj.symm, trivial⟩⟩
theorem good89 : goodFn Tryz.prog 89 := ⟨Tryz.f89, Tryz.func89, by kernel_rfl, by kernel_rfl⟩
theorem c89 (l : List Tbl) (g k : Nat) (caps : Nat → PV) (V : Tbl → Bool) (hg : goodFn Tryz.prog g) (hV : ∀ i, i < l.length → HPure Tryz.prog g ((l.getD i default).pc :: capsOf caps k 0) (prOf [pB (V (l.getD i default))])) : HPure Tryz.prog 89 [pP (tbls l), pP (.fn g k caps)] (prOf [pI (idx V l)]) := by
  refine hpure_of (nt := 19) Tryzok Tryz.func89 rfl rfl (Nat.le_of_ble_eq_true rfl) ?_; refine hw_bt 0 rfl (fun hn => ?_); refine hw_seq ?_; refine hw_region (E := TryzE) Tryzok ?_; refine rq rfl rfl rfl rfl rfl ?_; refine rg_nil ?_
  show HW _ _ _ _ _; refine hw_joinK (ι := Unit) ⟨[], []⟩ ⟨trivial, trivial⟩ (fun _i => ⟨[], []⟩) (fun _i => idx V l = -1) ?_ ?_
  · skip
    refine hw_seq ?_; refine hw_region (E := TryzE) Tryzok ?_; (iterate 3 refine rq rfl rfl rfl rfl rfl ?_); refine rg_nil ?_; show HW _ _ _ _ _; refine hw_block ?_
    refine hw_loopK (ι := Nat) ⟨[(0, some _), (1, some _), (7, some _)], []⟩ ⟨⟨⟨_, rfl, CoR.refl _⟩, ⟨_, rfl, CoR.refl _⟩, ⟨_, rfl, CoR.refl _⟩, trivial⟩, trivial⟩ (fun i => ⟨[(8, some (vI i))], []⟩) (fun i => i ≤ l.length ∧ ∀ j, j < i → V (l.getD j default) = false) (fun i => l.length - i) (0) (⟨Nat.zero_le _, all_zero⟩) ⟨⟨⟨_, rfl, (by first | exact CoR.refl _ | exact coi (by omega) | exact cob (by simp_all))⟩, trivial⟩, trivial⟩ ?_
    rintro i ⟨hi, hI⟩
    refine hw_seq ?_; refine hw_region (E := TryzE) Tryzok ?_; refine rq rfl rfl rfl rfl rfl ?_; refine rg_nil ?_; show HW _ _ _ _ _; refine hw_seq ?_; refine hw_cond _ rfl (fun r0 => ?_) (fun r0 => ?_)
    · skip
      have h0 := r0
      have h0 := of_decide_eq_true h0
      try simp only [Int.toNat_natCast] at h0
      refine hw_skip ?_; show HW _ _ _ _ _; refine hw_seq ?_; refine hw_block ?_; refine hw_seq ?_; refine hw_region (E := TryzE) Tryzok ?_; (iterate 2 refine rq rfl rfl rfl rfl rfl ?_); refine rg_nil ?_; show HW _ _ _ _ _
      refine hw_seq ?_; refine hw_region (E := TryzE) Tryzok ?_; (iterate 5 refine rq rfl rfl rfl rfl rfl ?_); refine rc rfl rfl rfl rfl rfl rfl hg (hV i (by omega)) (CoL.refl _) rfl rfl ?_; refine rg_nil ?_; show HW _ _ _ _ _
      refine hw_cond _ rfl (fun r1 => ?_) (fun r1 => ?_)
      · skip
        have h1 := r1
        refine hw_seq ?_; refine hw_region (E := TryzE) Tryzok ?_; (iterate 2 refine rq rfl rfl rfl rfl rfl ?_); refine rg_nil ?_; show HW _ _ _ _ _; refine hw_ret ?_; refine ⟨.inr rfl, ?_⟩
        exact ⟨_, _, _, _, rfl, (by (repeat' apply And.intro) <;> first | trivial | exact Nat.le_of_ble_eq_true rfl | rfl), rfl, (by (repeat' apply And.intro) <;> first | trivial | exact Nat.le_of_ble_eq_true rfl | rfl), ⟨cci (idx_t (i := i) (by omega) hI h1).symm, trivial⟩⟩
      · skip
        have h1 := r1
        refine hw_skip ?_; show HW _ _ _ _ _; refine hw_region (E := TryzE) Tryzok ?_; (iterate 2 refine rq rfl rfl rfl rfl rfl ?_); refine rg_nil ?_; refine ⟨i + 1, ?_, ?_, ?_⟩
        · exact ⟨by omega, all_succ hI (h1)⟩
        · first | omega | (dsimp only; omega)
        · exact ⟨⟨⟨_, rfl, (by first | exact CoR.refl _ | exact coi (by omega) | exact cob (by simp_all))⟩, ⟨_, rfl, CoR.refl _⟩, ⟨_, rfl, CoR.refl _⟩, ⟨_, rfl, CoR.refl _⟩, trivial⟩, trivial⟩
    · skip
      have h0 := r0
      have h0 := of_decide_eq_false h0
      try simp only [Int.toNat_natCast] at h0
      refine hw_exit ?_; refine ⟨(), ?_, ?_⟩
      · exact idx_f fun j hj => hI j (by omega)
      · exact ⟨trivial, trivial⟩
  · rintro _ hj
    refine hw_seq ?_; refine hw_region (E := TryzE) Tryzok ?_; refine rq rfl rfl rfl rfl rfl ?_; refine rg_nil ?_; show HW _ _ _ _ _; refine hw_ret ?_; refine ⟨.inr rfl, ?_⟩
    exact ⟨_, _, _, _, rfl, (by (repeat' apply And.intro) <;> first | trivial | exact Nat.le_of_ble_eq_true rfl | rfl), rfl, (by (repeat' apply And.intro) <;> first | trivial | exact Nat.le_of_ble_eq_true rfl | rfl), ⟨cci hj.symm, trivial⟩⟩
theorem good106 : goodFn Tryz.prog 106 := ⟨Tryz.f106, Tryz.func106, by kernel_rfl, by kernel_rfl⟩
theorem c106 (l : List Val) (g k : Nat) (caps : Nat → PV) (V : Val → Bool) (hg : goodFn Tryz.prog g) (hV : ∀ i, i < l.length → HPure Tryz.prog g ((l.getD i default).pc :: capsOf caps k 0) (prOf [pB (V (l.getD i default))])) : HPure Tryz.prog 106 [pP (vals l), pP (.fn g k caps)] (prOf [pB (l.any V)]) := by
  refine hpure_of (nt := 9) Tryzok Tryz.func106 rfl rfl (Nat.le_of_ble_eq_true rfl) ?_; refine hw_seq ?_; refine hw_region (E := TryzE) Tryzok ?_; refine rq rfl rfl rfl rfl rfl ?_; refine rg_nil ?_; show HW _ _ _ _ _
  refine hw_seq ?_; refine hw_region (E := TryzE) Tryzok ?_; (iterate 2 refine rq rfl rfl rfl rfl rfl ?_); refine rc rfl rfl rfl rfl rfl rfl good116 (c116 l g k caps V hg hV) (CoL.refl _) rfl rfl ?_
  (iterate 2 refine rq rfl rfl rfl rfl rfl ?_); refine rg_nil ?_; show HW _ _ _ _ _; refine hw_ret ?_; refine ⟨.inr rfl, ?_⟩
  exact ⟨_, _, _, _, rfl, (by (repeat' apply And.intro) <;> first | trivial | exact Nat.le_of_ble_eq_true rfl | rfl), rfl, (by (repeat' apply And.intro) <;> first | trivial | exact Nat.le_of_ble_eq_true rfl | rfl), ⟨ccb idx_any, trivial⟩⟩
theorem good107 : goodFn Tryz.prog 107 := ⟨Tryz.f107, Tryz.func107, by kernel_rfl, by kernel_rfl⟩
theorem c107 (v : Val) : HPure Tryz.prog 107 [v.pc] (prOf [pB (!okVal v)]) := by
  refine hpure_of (nt := 6) Tryzok Tryz.func107 rfl rfl (Nat.le_of_ble_eq_true rfl) ?_; refine hw_seq ?_; refine hw_region (E := TryzE) Tryzok ?_; refine rm 0 rfl rfl rfl rfl rfl rfl ?_; refine rq rfl rfl rfl rfl rfl ?_
  refine rg_nil ?_; show HW _ _ _ _ _; refine hw_seq ?_; refine hw_region (E := TryzE) Tryzok ?_; refine rq rfl rfl rfl rfl rfl ?_; refine rc rfl rfl rfl rfl rfl rfl good76 (c76 _) (CoL.refl _) rfl rfl ?_
  (iterate 2 refine rq rfl rfl rfl rfl rfl ?_); refine rg_nil ?_; show HW _ _ _ _ _; refine hw_ret ?_; refine ⟨.inr rfl, ?_⟩
  exact ⟨_, _, _, _, rfl, (by (repeat' apply And.intro) <;> first | trivial | exact Nat.le_of_ble_eq_true rfl | rfl), rfl, (by (repeat' apply And.intro) <;> first | trivial | exact Nat.le_of_ble_eq_true rfl | rfl), CoL.refl _⟩
theorem good93 : goodFn Tryz.prog 93 := ⟨Tryz.f93, Tryz.func93, by kernel_rfl, by kernel_rfl⟩
theorem c93 (l : List Val) : HPure Tryz.prog 93 [pP (vals l)] (prOf [pB (l.all okVal)]) := by
  refine hpure_of (nt := 6) Tryzok Tryz.func93 rfl rfl (Nat.le_of_ble_eq_true rfl) ?_; refine hw_seq ?_; refine hw_region (E := TryzE) Tryzok ?_; refine rq rfl rfl rfl rfl rfl ?_; refine rg_nil ?_; show HW _ _ _ _ _
  refine hw_seq ?_; refine hw_region (E := TryzE) Tryzok ?_; refine rq rfl rfl rfl rfl rfl ?_
  refine rc rfl rfl rfl rfl rfl rfl good106 (c106 l 107 0 (fun _ => .any) (fun v => !okVal v) good107 (fun i _ => c107 _)) (CoL.refl _) rfl rfl ?_; (iterate 2 refine rq rfl rfl rfl rfl rfl ?_); refine rg_nil ?_; show HW _ _ _ _ _
  refine hw_ret ?_; refine ⟨.inr rfl, ?_⟩
  exact ⟨_, _, _, _, rfl, (by (repeat' apply And.intro) <;> first | trivial | exact Nat.le_of_ble_eq_true rfl | rfl), rfl, (by (repeat' apply And.intro) <;> first | trivial | exact Nat.le_of_ble_eq_true rfl | rfl), ⟨ccb all_not_any, trivial⟩⟩
end Go.Hx
end
