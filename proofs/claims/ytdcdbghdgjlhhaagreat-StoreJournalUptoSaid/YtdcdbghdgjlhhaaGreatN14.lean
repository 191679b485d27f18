/- A part of the proof: lemmas for the theorem of this claim, merged by a program of ours out of W2. -/
import Derived.Test.YtdcdbghdgjlhhaaGreatN13
set_option linter.all false
section
namespace Go.Hx
open Go.Proofs
set_option maxRecDepth 100000
theorem good101 : goodFn Tryz.prog 101 := ⟨Tryz.f101, Tryz.func101, by kernel_rfl, by kernel_rfl⟩
theorem c101 (a b : List Val) (ha : valsOk a) (hb : valsOk b) : HPure Tryz.prog 101 [pP (vals a), pP (vals b)] (prOf [pI (cmpVL a b)]) := by
  refine hpure_of (nt := 36) Tryzok Tryz.func101 rfl rfl (Nat.le_of_ble_eq_true rfl) ?_; refine hw_bt 0 rfl (fun hn => ?_); refine hw_seq ?_; refine hw_region (E := TryzE) Tryzok ?_; refine rq rfl rfl rfl rfl rfl ?_
  refine rg_nil ?_; show HW _ _ _ _ _
  refine hw_joinK (ι := Unit) ⟨[(0, some _), (1, some _)], []⟩ ⟨⟨⟨_, rfl, CoR.refl _⟩, ⟨_, rfl, CoR.refl _⟩, trivial⟩, trivial⟩ (fun _i => ⟨[], []⟩) (fun _i => cmpVL a b = sgn a.length b.length) ?_ ?_
  · skip
    refine hw_seq ?_; refine hw_region (E := TryzE) Tryzok ?_; refine rq rfl rfl rfl rfl rfl ?_; refine rg_nil ?_; show HW _ _ _ _ _; refine hw_block ?_
    refine hw_loopK (ι := Nat) ⟨[(0, some _), (1, some _)], []⟩ ⟨⟨⟨_, rfl, CoR.refl _⟩, ⟨_, rfl, CoR.refl _⟩, trivial⟩, trivial⟩ (fun i => ⟨[(5, some (vI i))], []⟩) (fun i => i ≤ a.length ∧ i ≤ b.length ∧ cmpVL (a.drop i) (b.drop i) = cmpVL a b) (fun i => a.length - i) (0) (⟨Nat.zero_le _, Nat.zero_le _, rfl⟩) ⟨⟨⟨_, rfl, (by first | exact CoR.refl _ | exact coi (by omega) | exact cob (by simp_all))⟩, trivial⟩, trivial⟩ ?_
    rintro i ⟨hi1, hi2, hc⟩
    (iterate 2 refine hw_seq ?_); refine hw_region (E := TryzE) Tryzok ?_; (iterate 5 refine rq rfl rfl rfl rfl rfl ?_); refine rsplit rfl rfl (fun r0 => ?_) (fun r0 => ?_)
    · skip
      have h0 := r0
      have h0 := of_decide_eq_true h0
      try simp only [Int.toNat_natCast] at h0
      (iterate 4 refine rq rfl rfl rfl rfl (gtt r0) ?_); refine rq rfl rfl rfl rfl rfl ?_; refine rg_nil ?_; show HW _ _ _ _ _; refine hw_cond _ rfl (fun r1 => ?_) (fun r1 => ?_)
      · skip
        have h1 := r1
        have h1 := bif_t r0 h1
        have h1 := of_decide_eq_true h1
        try simp only [Int.toNat_natCast] at h1
        refine hw_skip ?_; show HW _ _ _ _ _; refine hw_seq ?_; refine hw_block ?_; refine hw_seq ?_; refine hw_draw (E := TryzE) Tryzok Tryzmixed [0, 1, 2, 3, 4, 5, 6, 7, 8, 9] ?_; (iterate 8 refine rq rfl rfl rfl rfl rfl ?_)
        refine rc rfl rfl rfl rfl rfl rfl good111 (c111 _ _ (ha i (by omega)) (hb i (by omega))) (CoL.refl _) rfl rfl ?_; refine rq rfl rfl rfl rfl rfl ?_; refine rg_nil ?_; refine ⟨by kernel_rfl, ?_⟩; show HW _ _ _ _ _
        refine hw_seq ?_; refine hw_region (E := TryzE) Tryzok ?_; (iterate 2 refine rq rfl rfl rfl rfl rfl ?_); refine rg_nil ?_; show HW _ _ _ _ _; refine hw_cond _ rfl (fun r2 => ?_) (fun r2 => ?_)
        · skip
          have h2 := r2
          have h2 := of_decide_eq_false (not_t h2)
          try simp only [Int.toNat_natCast] at h2
          refine hw_seq ?_; refine hw_region (E := TryzE) Tryzok ?_; (iterate 2 refine rq rfl rfl rfl rfl rfl ?_); refine rg_nil ?_; show HW _ _ _ _ _; refine hw_ret ?_; refine ⟨.inr rfl, ?_⟩
          exact ⟨_, _, _, _, rfl, (by (repeat' apply And.intro) <;> first | trivial | exact Nat.le_of_ble_eq_true rfl | rfl), rfl, (by (repeat' apply And.intro) <;> first | trivial | exact Nat.le_of_ble_eq_true rfl | rfl), ⟨cci (by rw [← hc]; exact (cmpVL_diff i _ _ (by omega) (by omega) h2).symm), trivial⟩⟩
        · skip
          have h2 := r2
          have h2 := of_decide_eq_true (not_f h2)
          try simp only [Int.toNat_natCast] at h2
          refine hw_skip ?_; show HW _ _ _ _ _; refine hw_region (E := TryzE) Tryzok ?_; (iterate 3 refine rq rfl rfl rfl rfl rfl ?_); refine rg_nil ?_; refine ⟨i + 1, ?_, ?_, ?_⟩
          · exact ⟨by omega, by omega, by rw [← hc]; exact (cmpVL_step i _ _ (by omega) (by omega) h2).symm⟩
          · first | omega | (dsimp only; omega)
          · exact ⟨⟨⟨_, rfl, (by first | exact CoR.refl _ | exact coi (by omega) | exact cob (by simp_all))⟩, ⟨_, rfl, CoR.refl _⟩, ⟨_, rfl, CoR.refl _⟩, trivial⟩, trivial⟩
      · skip
        have h1 := r1
        have h1 := bif_t r0 h1
        have h1 := of_decide_eq_false h1
        try simp only [Int.toNat_natCast] at h1
        refine hw_exit ?_; refine ⟨(), ?_, ?_⟩
        · rw [← hc]; exact cmpVL_end i _ _ (by omega) (by omega) (by omega)
        · exact ⟨⟨⟨_, rfl, CoR.refl _⟩, ⟨_, rfl, CoR.refl _⟩, trivial⟩, trivial⟩
    · skip
      have h0 := r0
      have h0 := of_decide_eq_false h0
      try simp only [Int.toNat_natCast] at h0
      (iterate 4 refine rk rfl rfl rfl (gft r0) ?_); refine rq rfl rfl rfl rfl rfl ?_ (hp := r0); refine rg_nil ?_; show HW _ _ _ _ _; refine hw_cond _ rfl (fun e => by cases e) (fun _ => ?_); refine hw_exit ?_; refine ⟨(), ?_, ?_⟩
      · rw [← hc]; exact cmpVL_end i _ _ (by omega) (by omega) (by omega)
      · exact ⟨⟨⟨_, rfl, CoR.refl _⟩, ⟨_, rfl, CoR.refl _⟩, trivial⟩, trivial⟩
  · rintro _ hj
    refine hw_seq ?_; refine hw_region (E := TryzE) Tryzok ?_; (iterate 4 refine rq rfl rfl rfl rfl rfl ?_); refine rc rfl rfl rfl rfl rfl rfl good112 (c112 _ _) (CoL.refl _) rfl rfl ?_; refine rq rfl rfl rfl rfl rfl ?_
    refine rg_nil ?_; show HW _ _ _ _ _; refine hw_ret ?_; refine ⟨.inr rfl, ?_⟩
    exact ⟨_, _, _, _, rfl, (by (repeat' apply And.intro) <;> first | trivial | exact Nat.le_of_ble_eq_true rfl | rfl), rfl, (by (repeat' apply And.intro) <;> first | trivial | exact Nat.le_of_ble_eq_true rfl | rfl), ⟨cci hj.symm, trivial⟩⟩
theorem good81 : goodFn Tryz.prog 81 := ⟨Tryz.f81, Tryz.func81, by kernel_rfl, by kernel_rfl⟩
theorem c81 (a b : List Val) (ha : valsOk a) (hb : valsOk b) : HPure Tryz.prog 81 [pP (vals a), pP (vals b)] (prOf [pB (decide (a = b))]) := by
  refine hpure_of (nt := 9) Tryzok Tryz.func81 rfl rfl (Nat.le_of_ble_eq_true rfl) ?_; refine hw_seq ?_; refine hw_region (E := TryzE) Tryzok ?_; refine rq rfl rfl rfl rfl rfl ?_; refine rg_nil ?_; show HW _ _ _ _ _
  refine hw_seq ?_; refine hw_region (E := TryzE) Tryzok ?_; (iterate 2 refine rq rfl rfl rfl rfl rfl ?_); refine rc rfl rfl rfl rfl rfl rfl good101 (c101 a b ha hb) (CoL.refl _) rfl rfl ?_
  (iterate 2 refine rq rfl rfl rfl rfl rfl ?_); refine rg_nil ?_; show HW _ _ _ _ _; refine hw_ret ?_; refine ⟨.inr rfl, ?_⟩
  exact ⟨_, _, _, _, rfl, (by (repeat' apply And.intro) <;> first | trivial | exact Nat.le_of_ble_eq_true rfl | rfl), rfl, (by (repeat' apply And.intro) <;> first | trivial | exact Nat.le_of_ble_eq_true rfl | rfl), ⟨ccb (decide_eq_decide.2 cmpVL_zero), trivial⟩⟩
theorem good86 : goodFn Tryz.prog 86 := ⟨Tryz.f86, Tryz.func86, by kernel_rfl, by kernel_rfl⟩
theorem c86 (v : Val) : HPure Tryz.prog 86 [v.pc] (prOf [pB (okVal v)]) := by
  refine hpure_of (nt := 44) Tryzok Tryz.func86 rfl rfl (Nat.le_of_ble_eq_true rfl) ?_; refine hw_seq ?_; refine hw_region (E := TryzE) Tryzok ?_; refine rm 0 rfl rfl rfl rfl rfl rfl ?_; refine rq rfl rfl rfl rfl rfl ?_
  refine rg_nil ?_; show HW _ _ _ _ _; (iterate 2 refine hw_seq ?_); refine hw_region (E := TryzE) Tryzok ?_; (iterate 2 refine rq rfl rfl rfl rfl rfl ?_); refine rg_nil ?_; show HW _ _ _ _ _; refine hw_block ?_; refine hw_seq ?_
  refine hw_region (E := TryzE) Tryzok ?_; (iterate 2 refine rq rfl rfl rfl rfl rfl ?_); refine rg_nil ?_; show HW _ _ _ _ _; refine hw_cond _ rfl (fun r0 => ?_) (fun r0 => ?_)
  · skip
    have h0 := r0
    have h0 := of_decide_eq_true h0
    try simp only [Int.toNat_natCast] at h0
    refine hw_seq ?_; refine hw_region (E := TryzE) Tryzok ?_; (iterate 4 refine rq rfl rfl rfl rfl rfl ?_); refine rsplit rfl rfl (fun r1 => ?_) (fun r1 => ?_)
    · skip
      have h1 := r1
      have h1 := of_decide_eq_true h1
      try simp only [Int.toNat_natCast] at h1
      (iterate 3 refine rq rfl rfl rfl rfl (gtt r1) ?_); (iterate 2 refine rq rfl rfl rfl rfl rfl ?_); refine rg_nil ?_; show HW _ _ _ _ _; refine hw_ret ?_; refine ⟨.inr rfl, ?_⟩
      exact ⟨_, _, _, _, rfl, (by (repeat' apply And.intro) <;> first | trivial | exact Nat.le_of_ble_eq_true rfl | rfl), rfl, (by (repeat' apply And.intro) <;> first | trivial | exact Nat.le_of_ble_eq_true rfl | rfl), ⟨ccb (by simp [okVal, *] <;> omega), trivial⟩⟩
    · skip
      have h1 := r1
      have h1 := of_decide_eq_false h1
      try simp only [Int.toNat_natCast] at h1
      (iterate 3 refine rk rfl rfl rfl (gft r1) ?_); refine rq rfl rfl rfl rfl rfl ?_ (hp := r1); refine rq rfl rfl rfl rfl rfl ?_; refine rg_nil ?_; show HW _ _ _ _ _; refine hw_ret ?_; refine ⟨.inr rfl, ?_⟩
      exact ⟨_, _, _, _, rfl, (by (repeat' apply And.intro) <;> first | trivial | exact Nat.le_of_ble_eq_true rfl | rfl), rfl, (by (repeat' apply And.intro) <;> first | trivial | exact Nat.le_of_ble_eq_true rfl | rfl), ⟨ccb (by simp [okVal, *] <;> omega), trivial⟩⟩
  · skip
    have h0 := r0
    have h0 := of_decide_eq_false h0
    try simp only [Int.toNat_natCast] at h0
    refine hw_seq ?_; refine hw_region (E := TryzE) Tryzok ?_; (iterate 2 refine rq rfl rfl rfl rfl rfl ?_); refine rg_nil ?_; show HW _ _ _ _ _; refine hw_cond _ rfl (fun r2 => ?_) (fun r2 => ?_)
    · skip
      have h2 := r2
      have h2 := of_decide_eq_true h2
      try simp only [Int.toNat_natCast] at h2
      refine hw_seq ?_; refine hw_region (E := TryzE) Tryzok ?_; (iterate 4 refine rq rfl rfl rfl rfl rfl ?_); refine rg_nil ?_; show HW _ _ _ _ _; refine hw_ret ?_; refine ⟨.inr rfl, ?_⟩
      exact ⟨_, _, _, _, rfl, (by (repeat' apply And.intro) <;> first | trivial | exact Nat.le_of_ble_eq_true rfl | rfl), rfl, (by (repeat' apply And.intro) <;> first | trivial | exact Nat.le_of_ble_eq_true rfl | rfl), ⟨ccb (by simp [okVal, *] <;> omega), trivial⟩⟩
    · skip
      have h2 := r2
      have h2 := of_decide_eq_false h2
      try simp only [Int.toNat_natCast] at h2
      refine hw_seq ?_; refine hw_region (E := TryzE) Tryzok ?_; (iterate 2 refine rq rfl rfl rfl rfl rfl ?_); refine rg_nil ?_; show HW _ _ _ _ _; refine hw_cond _ rfl (fun r3 => ?_) (fun r3 => ?_)
      · skip
        have h3 := r3
        have h3 := of_decide_eq_true h3
        try simp only [Int.toNat_natCast] at h3
        refine hw_seq ?_; refine hw_region (E := TryzE) Tryzok ?_; (iterate 4 refine rq rfl rfl rfl rfl rfl ?_); refine rsplit rfl rfl (fun r4 => ?_) (fun r4 => ?_)
        · skip
          have h4 := r4
          have h4 := of_decide_eq_true h4
          try simp only [Int.toNat_natCast] at h4
          (iterate 4 refine rq rfl rfl rfl rfl (gtt r4) ?_); (iterate 2 refine rq rfl rfl rfl rfl rfl ?_); refine rg_nil ?_; show HW _ _ _ _ _; refine hw_ret ?_; refine ⟨.inr rfl, ?_⟩
          exact ⟨_, _, _, _, rfl, (by (repeat' apply And.intro) <;> first | trivial | exact Nat.le_of_ble_eq_true rfl | rfl), rfl, (by (repeat' apply And.intro) <;> first | trivial | exact Nat.le_of_ble_eq_true rfl | rfl), ⟨ccb (by simp [okVal, *] <;> omega), trivial⟩⟩
        · skip
          have h4 := r4
          have h4 := of_decide_eq_false h4
          try simp only [Int.toNat_natCast] at h4
          (iterate 4 refine rk rfl rfl rfl (gft r4) ?_); refine rq rfl rfl rfl rfl rfl ?_ (hp := r4); refine rq rfl rfl rfl rfl rfl ?_; refine rg_nil ?_; show HW _ _ _ _ _; refine hw_ret ?_; refine ⟨.inr rfl, ?_⟩
          exact ⟨_, _, _, _, rfl, (by (repeat' apply And.intro) <;> first | trivial | exact Nat.le_of_ble_eq_true rfl | rfl), rfl, (by (repeat' apply And.intro) <;> first | trivial | exact Nat.le_of_ble_eq_true rfl | rfl), ⟨ccb (by simp [okVal, *] <;> omega), trivial⟩⟩
      · skip
        have h3 := r3
        have h3 := of_decide_eq_false h3
        try simp only [Int.toNat_natCast] at h3
        refine hw_skip ?_; show HW _ _ _ _ _; refine hw_seq ?_; refine hw_region (E := TryzE) Tryzok ?_; (iterate 4 refine rq rfl rfl rfl rfl rfl ?_); refine rsplit rfl rfl (fun r5 => ?_) (fun r5 => ?_)
        · skip
          have h5 := r5
          have h5 := of_decide_eq_true h5
          try simp only [Int.toNat_natCast] at h5
          (iterate 3 refine rq rfl rfl rfl rfl (gtt r5) ?_); (iterate 2 refine rq rfl rfl rfl rfl rfl ?_); refine rsplit rfl rfl (fun r6 => ?_) (fun r6 => ?_)
          · skip
            have h6 := r6
            have h6 := bif_t r5 h6
            have h6 := of_decide_eq_true h6
            try simp only [Int.toNat_natCast] at h6
            (iterate 3 refine rq rfl rfl rfl rfl (gtt r6) ?_); (iterate 2 refine rq rfl rfl rfl rfl rfl ?_); refine rg_nil ?_; show HW _ _ _ _ _; refine hw_ret ?_; refine ⟨.inr rfl, ?_⟩
            exact ⟨_, _, _, _, rfl, (by (repeat' apply And.intro) <;> first | trivial | exact Nat.le_of_ble_eq_true rfl | rfl), rfl, (by (repeat' apply And.intro) <;> first | trivial | exact Nat.le_of_ble_eq_true rfl | rfl), ⟨ccb (by simp [okVal, *] <;> omega), trivial⟩⟩
          · skip
            have h6 := r6
            have h6 := bif_t r5 h6
            have h6 := of_decide_eq_false h6
            try simp only [Int.toNat_natCast] at h6
            (iterate 3 refine rk rfl rfl rfl (gft r6) ?_); refine rq rfl rfl rfl rfl rfl ?_ (hp := r6); refine rq rfl rfl rfl rfl rfl ?_; refine rg_nil ?_; show HW _ _ _ _ _; refine hw_ret ?_; refine ⟨.inr rfl, ?_⟩
            exact ⟨_, _, _, _, rfl, (by (repeat' apply And.intro) <;> first | trivial | exact Nat.le_of_ble_eq_true rfl | rfl), rfl, (by (repeat' apply And.intro) <;> first | trivial | exact Nat.le_of_ble_eq_true rfl | rfl), ⟨ccb (by simp [okVal, *] <;> omega), trivial⟩⟩
        · skip
          have h5 := r5
          have h5 := of_decide_eq_false h5
          try simp only [Int.toNat_natCast] at h5
          (iterate 3 refine rk rfl rfl rfl (gft r5) ?_); refine rq rfl rfl rfl rfl rfl ?_ (hp := r5); refine rq rfl rfl rfl rfl rfl ?_; (iterate 3 refine rk rfl rfl rfl rfl ?_); (iterate 2 refine rq rfl rfl rfl rfl rfl ?_)
          refine rg_nil ?_; show HW _ _ _ _ _; refine hw_ret ?_; refine ⟨.inr rfl, ?_⟩
          exact ⟨_, _, _, _, rfl, (by (repeat' apply And.intro) <;> first | trivial | exact Nat.le_of_ble_eq_true rfl | rfl), rfl, (by (repeat' apply And.intro) <;> first | trivial | exact Nat.le_of_ble_eq_true rfl | rfl), ⟨ccb (by simp [okVal, *] <;> omega), trivial⟩⟩
theorem good76 : goodFn Tryz.prog 76 := ⟨Tryz.f76, Tryz.func76, by kernel_rfl, by kernel_rfl⟩
theorem c76 (v : Val) : HPure Tryz.prog 76 [v.pc] (prOf [pB (okVal v)]) := by
  refine hpure_of (nt := 41) Tryzok Tryz.func76 rfl rfl (Nat.le_of_ble_eq_true rfl) ?_; refine hw_seq ?_; refine hw_region (E := TryzE) Tryzok ?_; refine rm 0 rfl rfl rfl rfl rfl rfl ?_; refine rq rfl rfl rfl rfl rfl ?_
  refine rg_nil ?_; show HW _ _ _ _ _; (iterate 2 refine hw_seq ?_); refine hw_region (E := TryzE) Tryzok ?_; (iterate 2 refine rq rfl rfl rfl rfl rfl ?_); refine rg_nil ?_; show HW _ _ _ _ _; refine hw_block ?_; refine hw_seq ?_
  refine hw_region (E := TryzE) Tryzok ?_; (iterate 2 refine rq rfl rfl rfl rfl rfl ?_); refine rg_nil ?_; show HW _ _ _ _ _; refine hw_cond _ rfl (fun r0 => ?_) (fun r0 => ?_)
  · skip
    have h0 := r0
    have h0 := of_decide_eq_true h0
    try simp only [Int.toNat_natCast] at h0
    refine hw_seq ?_; refine hw_region (E := TryzE) Tryzok ?_; (iterate 4 refine rq rfl rfl rfl rfl rfl ?_); refine rsplit rfl rfl (fun r1 => ?_) (fun r1 => ?_)
    · skip
      have h1 := r1
      have h1 := of_decide_eq_true h1
      try simp only [Int.toNat_natCast] at h1
      (iterate 3 refine rq rfl rfl rfl rfl (gtt r1) ?_); (iterate 2 refine rq rfl rfl rfl rfl rfl ?_); refine rg_nil ?_; show HW _ _ _ _ _; refine hw_ret ?_; refine ⟨.inr rfl, ?_⟩
      exact ⟨_, _, _, _, rfl, (by (repeat' apply And.intro) <;> first | trivial | exact Nat.le_of_ble_eq_true rfl | rfl), rfl, (by (repeat' apply And.intro) <;> first | trivial | exact Nat.le_of_ble_eq_true rfl | rfl), ⟨ccb (by simp [okVal, *] <;> omega), trivial⟩⟩
    · skip
      have h1 := r1
      have h1 := of_decide_eq_false h1
      try simp only [Int.toNat_natCast] at h1
      (iterate 3 refine rk rfl rfl rfl (gft r1) ?_); refine rq rfl rfl rfl rfl rfl ?_ (hp := r1); refine rq rfl rfl rfl rfl rfl ?_; refine rg_nil ?_; show HW _ _ _ _ _; refine hw_ret ?_; refine ⟨.inr rfl, ?_⟩
      exact ⟨_, _, _, _, rfl, (by (repeat' apply And.intro) <;> first | trivial | exact Nat.le_of_ble_eq_true rfl | rfl), rfl, (by (repeat' apply And.intro) <;> first | trivial | exact Nat.le_of_ble_eq_true rfl | rfl), ⟨ccb (by simp [okVal, *] <;> omega), trivial⟩⟩
  · skip
    have h0 := r0
    have h0 := of_decide_eq_false h0
    try simp only [Int.toNat_natCast] at h0
    refine hw_seq ?_; refine hw_region (E := TryzE) Tryzok ?_; (iterate 2 refine rq rfl rfl rfl rfl rfl ?_); refine rg_nil ?_; show HW _ _ _ _ _; refine hw_cond _ rfl (fun r2 => ?_) (fun r2 => ?_)
    · skip
      have h2 := r2
      have h2 := of_decide_eq_true h2
      try simp only [Int.toNat_natCast] at h2
      refine hw_seq ?_; refine hw_region (E := TryzE) Tryzok ?_; (iterate 4 refine rq rfl rfl rfl rfl rfl ?_); refine rg_nil ?_; show HW _ _ _ _ _; refine hw_ret ?_; refine ⟨.inr rfl, ?_⟩
      exact ⟨_, _, _, _, rfl, (by (repeat' apply And.intro) <;> first | trivial | exact Nat.le_of_ble_eq_true rfl | rfl), rfl, (by (repeat' apply And.intro) <;> first | trivial | exact Nat.le_of_ble_eq_true rfl | rfl), ⟨ccb (by simp [okVal, *] <;> omega), trivial⟩⟩
    · skip
      have h2 := r2
      have h2 := of_decide_eq_false h2
      try simp only [Int.toNat_natCast] at h2
      refine hw_seq ?_; refine hw_region (E := TryzE) Tryzok ?_; (iterate 2 refine rq rfl rfl rfl rfl rfl ?_); refine rg_nil ?_; show HW _ _ _ _ _; refine hw_cond _ rfl (fun r3 => ?_) (fun r3 => ?_)
      · skip
        have h3 := r3
        have h3 := of_decide_eq_true h3
        try simp only [Int.toNat_natCast] at h3
        refine hw_seq ?_; refine hw_region (E := TryzE) Tryzok ?_; (iterate 4 refine rq rfl rfl rfl rfl rfl ?_); refine rsplit rfl rfl (fun r4 => ?_) (fun r4 => ?_)
        · skip
          have h4 := r4
          have h4 := of_decide_eq_true h4
          try simp only [Int.toNat_natCast] at h4
          (iterate 4 refine rq rfl rfl rfl rfl (gtt r4) ?_); (iterate 2 refine rq rfl rfl rfl rfl rfl ?_); refine rg_nil ?_; show HW _ _ _ _ _; refine hw_ret ?_; refine ⟨.inr rfl, ?_⟩
          exact ⟨_, _, _, _, rfl, (by (repeat' apply And.intro) <;> first | trivial | exact Nat.le_of_ble_eq_true rfl | rfl), rfl, (by (repeat' apply And.intro) <;> first | trivial | exact Nat.le_of_ble_eq_true rfl | rfl), ⟨ccb (by simp [okVal, *] <;> omega), trivial⟩⟩
        · skip
          have h4 := r4
          have h4 := of_decide_eq_false h4
          try simp only [Int.toNat_natCast] at h4
          (iterate 4 refine rk rfl rfl rfl (gft r4) ?_); refine rq rfl rfl rfl rfl rfl ?_ (hp := r4); refine rq rfl rfl rfl rfl rfl ?_; refine rg_nil ?_; show HW _ _ _ _ _; refine hw_ret ?_; refine ⟨.inr rfl, ?_⟩
          exact ⟨_, _, _, _, rfl, (by (repeat' apply And.intro) <;> first | trivial | exact Nat.le_of_ble_eq_true rfl | rfl), rfl, (by (repeat' apply And.intro) <;> first | trivial | exact Nat.le_of_ble_eq_true rfl | rfl), ⟨ccb (by simp [okVal, *] <;> omega), trivial⟩⟩
      · skip
        have h3 := r3
        have h3 := of_decide_eq_false h3
        try simp only [Int.toNat_natCast] at h3
        refine hw_seq ?_; refine hw_region (E := TryzE) Tryzok ?_; (iterate 2 refine rq rfl rfl rfl rfl rfl ?_); refine rg_nil ?_; show HW _ _ _ _ _; refine hw_cond _ rfl (fun r5 => ?_) (fun r5 => ?_)
        · skip
          have h5 := r5
          have h5 := of_decide_eq_true h5
          try simp only [Int.toNat_natCast] at h5
          refine hw_seq ?_; refine hw_region (E := TryzE) Tryzok ?_; (iterate 4 refine rq rfl rfl rfl rfl rfl ?_); refine rsplit rfl rfl (fun r6 => ?_) (fun r6 => ?_)
          · skip
            have h6 := r6
            have h6 := of_decide_eq_true h6
            try simp only [Int.toNat_natCast] at h6
            (iterate 3 refine rq rfl rfl rfl rfl (gtt r6) ?_); (iterate 2 refine rq rfl rfl rfl rfl rfl ?_); refine rg_nil ?_; show HW _ _ _ _ _; refine hw_ret ?_; refine ⟨.inr rfl, ?_⟩
            exact ⟨_, _, _, _, rfl, (by (repeat' apply And.intro) <;> first | trivial | exact Nat.le_of_ble_eq_true rfl | rfl), rfl, (by (repeat' apply And.intro) <;> first | trivial | exact Nat.le_of_ble_eq_true rfl | rfl), ⟨ccb (by simp [okVal, *] <;> omega), trivial⟩⟩
          · skip
            have h6 := r6
            have h6 := of_decide_eq_false h6
            try simp only [Int.toNat_natCast] at h6
            (iterate 3 refine rk rfl rfl rfl (gft r6) ?_); refine rq rfl rfl rfl rfl rfl ?_ (hp := r6); refine rq rfl rfl rfl rfl rfl ?_; refine rg_nil ?_; show HW _ _ _ _ _; refine hw_ret ?_; refine ⟨.inr rfl, ?_⟩
            exact ⟨_, _, _, _, rfl, (by (repeat' apply And.intro) <;> first | trivial | exact Nat.le_of_ble_eq_true rfl | rfl), rfl, (by (repeat' apply And.intro) <;> first | trivial | exact Nat.le_of_ble_eq_true rfl | rfl), ⟨ccb (by simp [okVal, *] <;> omega), trivial⟩⟩
        · skip
          have h5 := r5
          have h5 := of_decide_eq_false h5
          try simp only [Int.toNat_natCast] at h5
          refine hw_skip ?_; show HW _ _ _ _ _; refine hw_seq ?_; refine hw_region (E := TryzE) Tryzok ?_; refine rq rfl rfl rfl rfl rfl ?_; refine rg_nil ?_; show HW _ _ _ _ _; refine hw_ret ?_; refine ⟨.inr rfl, ?_⟩
          exact ⟨_, _, _, _, rfl, (by (repeat' apply And.intro) <;> first | trivial | exact Nat.le_of_ble_eq_true rfl | rfl), rfl, (by (repeat' apply And.intro) <;> first | trivial | exact Nat.le_of_ble_eq_true rfl | rfl), ⟨ccb (by simp [okVal, *] <;> omega), trivial⟩⟩
theorem good83 : goodFn Tryz.prog 83 := ⟨Tryz.f83, Tryz.func83, by kernel_rfl, by kernel_rfl⟩
theorem c83 (l : List Val) : HPure Tryz.prog 83 [pP (vals l)] (prOf [pB (l.all okVal)]) := by
  refine hpure_of (nt := 16) Tryzok Tryz.func83 rfl rfl (Nat.le_of_ble_eq_true rfl) ?_; refine hw_bt 0 rfl (fun hn => ?_); refine hw_seq ?_; refine hw_region (E := TryzE) Tryzok ?_; refine rq rfl rfl rfl rfl rfl ?_; refine rg_nil ?_
  show HW _ _ _ _ _; refine hw_joinK (ι := Unit) ⟨[], []⟩ ⟨trivial, trivial⟩ (fun _i => ⟨[], []⟩) (fun _i => l.all okVal = true) ?_ ?_
  · skip
    refine hw_seq ?_; refine hw_region (E := TryzE) Tryzok ?_; refine rq rfl rfl rfl rfl rfl ?_; refine rg_nil ?_; show HW _ _ _ _ _; refine hw_block ?_
    refine hw_loopK (ι := Nat) ⟨[(0, some _)], []⟩ ⟨⟨⟨_, rfl, CoR.refl _⟩, trivial⟩, trivial⟩ (fun i => ⟨[(3, some (vI i))], []⟩) (fun i => i ≤ l.length ∧ ∀ j, j < i → okVal (l.getD j default) = true) (fun i => l.length - i) (0) (⟨Nat.zero_le _, all_zero⟩) ⟨⟨⟨_, rfl, (by first | exact CoR.refl _ | exact coi (by omega) | exact cob (by simp_all))⟩, trivial⟩, trivial⟩ ?_
    rintro i ⟨hi, hI⟩
    (iterate 2 refine hw_seq ?_); refine hw_region (E := TryzE) Tryzok ?_; (iterate 4 refine rq rfl rfl rfl rfl rfl ?_); refine rg_nil ?_; show HW _ _ _ _ _; refine hw_cond _ rfl (fun r0 => ?_) (fun r0 => ?_)
    · skip
      have h0 := r0
      have h0 := of_decide_eq_true h0
      try simp only [Int.toNat_natCast] at h0
      refine hw_skip ?_; show HW _ _ _ _ _; refine hw_seq ?_; refine hw_block ?_; refine hw_seq ?_; refine hw_region (E := TryzE) Tryzok ?_; (iterate 4 refine rq rfl rfl rfl rfl rfl ?_)
      refine rc rfl rfl rfl rfl rfl rfl good86 (c86 _) (CoL.refl _) rfl rfl ?_; refine rq rfl rfl rfl rfl rfl ?_; refine rg_nil ?_; show HW _ _ _ _ _; refine hw_cond _ rfl (fun r1 => ?_) (fun r1 => ?_)
      · skip
        have h1 := r1
        have h1 := not_t h1
        refine hw_seq ?_; refine hw_region (E := TryzE) Tryzok ?_; refine rq rfl rfl rfl rfl rfl ?_; refine rg_nil ?_; show HW _ _ _ _ _; refine hw_ret ?_; refine ⟨.inr rfl, ?_⟩
        exact ⟨_, _, _, _, rfl, (by (repeat' apply And.intro) <;> first | trivial | exact Nat.le_of_ble_eq_true rfl | rfl), rfl, (by (repeat' apply And.intro) <;> first | trivial | exact Nat.le_of_ble_eq_true rfl | rfl), ⟨ccb (all_f (by omega) h1).symm, trivial⟩⟩
      · skip
        have h1 := r1
        have h1 := not_f h1
        refine hw_skip ?_; show HW _ _ _ _ _; refine hw_region (E := TryzE) Tryzok ?_; (iterate 3 refine rq rfl rfl rfl rfl rfl ?_); refine rg_nil ?_; refine ⟨i + 1, ?_, ?_, ?_⟩
        · exact ⟨by omega, all_succ hI (h1)⟩
        · first | omega | (dsimp only; omega)
        · exact ⟨⟨⟨_, rfl, (by first | exact CoR.refl _ | exact coi (by omega) | exact cob (by simp_all))⟩, ⟨_, rfl, CoR.refl _⟩, trivial⟩, trivial⟩
    · skip
      have h0 := r0
      have h0 := of_decide_eq_false h0
      try simp only [Int.toNat_natCast] at h0
      refine hw_exit ?_; refine ⟨(), ?_, ?_⟩
      · exact all_t fun j hj => hI j (by omega)
      · exact ⟨trivial, trivial⟩
  · rintro _ hj
    refine hw_seq ?_; refine hw_region (E := TryzE) Tryzok ?_; refine rq rfl rfl rfl rfl rfl ?_; refine rg_nil ?_; show HW _ _ _ _ _; refine hw_ret ?_; refine ⟨.inr rfl, ?_⟩
    exact ⟨_, _, _, _, rfl, (by (repeat' apply And.intro) <;> first | trivial | exact Nat.le_of_ble_eq_true rfl | rfl), rfl, (by (repeat' apply And.intro) <;> first | trivial | exact Nat.le_of_ble_eq_true rfl | rfl), ⟨ccb hj.symm, trivial⟩⟩
theorem good54 : goodFn Tryz.prog 54 := ⟨Tryz.f54, Tryz.func54, by kernel_rfl, by kernel_rfl⟩
theorem c54 (a b : Row) (ha : a.ok) (hb : b.ok) : HPure Tryz.prog 54 [a.pc, b.pc] (prOf [pB (decide (a = b))]) := by
  refine hpure_of (nt := 17) Tryzok Tryz.func54 rfl rfl (Nat.le_of_ble_eq_true rfl) ?_; refine hw_seq ?_; refine hw_region (E := TryzE) Tryzok ?_; refine rm 0 rfl rfl rfl rfl rfl rfl ?_; refine rm 1 rfl rfl rfl rfl rfl rfl ?_
  refine rq rfl rfl rfl rfl rfl ?_; refine rg_nil ?_; show HW _ _ _ _ _; refine hw_seq ?_; refine hw_region (E := TryzE) Tryzok ?_; (iterate 6 refine rq rfl rfl rfl rfl rfl ?_); refine rsplit rfl rfl (fun r0 => ?_) (fun r0 => ?_)
  · skip
    have h0 := r0
    have h0 := of_decide_eq_true h0
    try simp only [Int.toNat_natCast] at h0
    (iterate 4 refine rq rfl rfl rfl rfl (gtt r0) ?_); refine rc rfl rfl rfl rfl rfl rfl good81 (c81 a.vals b.vals ha.2 hb.2) (CoL.refl _) rfl (gtt r0) ?_; (iterate 2 refine rq rfl rfl rfl rfl rfl ?_); refine rg_nil ?_
    show HW _ _ _ _ _; refine hw_ret ?_; refine ⟨.inr rfl, ?_⟩
    exact ⟨_, _, _, _, rfl, (by (repeat' apply And.intro) <;> first | trivial | exact Nat.le_of_ble_eq_true rfl | rfl), rfl, (by (repeat' apply And.intro) <;> first | trivial | exact Nat.le_of_ble_eq_true rfl | rfl), ⟨ccb (by simp [Row.eq_iff, *]), trivial⟩⟩
  · skip
    have h0 := r0
    have h0 := of_decide_eq_false h0
    try simp only [Int.toNat_natCast] at h0
    (iterate 5 refine rk rfl rfl rfl (gft r0) ?_); refine rq rfl rfl rfl rfl rfl ?_ (hp := r0); refine rq rfl rfl rfl rfl rfl ?_; refine rg_nil ?_; show HW _ _ _ _ _; refine hw_ret ?_; refine ⟨.inr rfl, ?_⟩
    exact ⟨_, _, _, _, rfl, (by (repeat' apply And.intro) <;> first | trivial | exact Nat.le_of_ble_eq_true rfl | rfl), rfl, (by (repeat' apply And.intro) <;> first | trivial | exact Nat.le_of_ble_eq_true rfl | rfl), ⟨ccb (by simp [Row.eq_iff, *]), trivial⟩⟩
theorem good75 : goodFn Tryz.prog 75 := ⟨Tryz.f75, Tryz.func75, by kernel_rfl, by kernel_rfl⟩
theorem c75 (a b : List ByteArray) : HPure Tryz.prog 75 [pP (strs a), pP (strs b)] (prOf [pB (decide (a = b))]) := by
  refine hpure_of (nt := 26) Tryzok Tryz.func75 rfl rfl (Nat.le_of_ble_eq_true rfl) ?_; refine hw_bt 0 rfl (fun hn => ?_); refine hw_seq ?_; refine hw_region (E := TryzE) Tryzok ?_; refine rq rfl rfl rfl rfl rfl ?_; refine rg_nil ?_
  show HW _ _ _ _ _; (iterate 2 refine hw_seq ?_); refine hw_region (E := TryzE) Tryzok ?_; (iterate 5 refine rq rfl rfl rfl rfl rfl ?_); refine rg_nil ?_; show HW _ _ _ _ _; refine hw_cond _ rfl (fun r0 => ?_) (fun r0 => ?_)
  · skip
    have h0 := r0
    have h0 := of_decide_eq_false (not_t h0)
    try simp only [Int.toNat_natCast] at h0
    refine hw_seq ?_; refine hw_region (E := TryzE) Tryzok ?_; refine rq rfl rfl rfl rfl rfl ?_; refine rg_nil ?_; show HW _ _ _ _ _; refine hw_ret ?_; refine ⟨.inr rfl, ?_⟩
    exact ⟨_, _, _, _, rfl, (by (repeat' apply And.intro) <;> first | trivial | exact Nat.le_of_ble_eq_true rfl | rfl), rfl, (by (repeat' apply And.intro) <;> first | trivial | exact Nat.le_of_ble_eq_true rfl | rfl), ⟨ccb (decide_eq_false (fun e => h0 (by rw [e]))).symm, trivial⟩⟩
  · skip
    have h0 := r0
    have h0 := of_decide_eq_true (not_f h0)
    try simp only [Int.toNat_natCast] at h0
    refine hw_skip ?_; show HW _ _ _ _ _; refine hw_joinK (ι := Unit) ⟨[], []⟩ ⟨trivial, trivial⟩ (fun _i => ⟨[], []⟩) (fun _i => a = b) ?_ ?_
    · skip
      refine hw_seq ?_; refine hw_region (E := TryzE) Tryzok ?_; refine rq rfl rfl rfl rfl rfl ?_; refine rg_nil ?_; show HW _ _ _ _ _; refine hw_block ?_
      refine hw_loopK (ι := Nat) ⟨[(0, some _), (1, some _)], []⟩ ⟨⟨⟨_, rfl, CoR.refl _⟩, ⟨_, rfl, CoR.refl _⟩, trivial⟩, trivial⟩ (fun i => ⟨[(5, some (vI i))], []⟩) (fun i => i ≤ a.length ∧ ∀ j, j < i → a.getD j default = b.getD j default) (fun i => a.length - i) (0) (⟨Nat.zero_le _, all_zero⟩) ⟨⟨⟨_, rfl, (by first | exact CoR.refl _ | exact coi (by omega) | exact cob (by simp_all))⟩, trivial⟩, trivial⟩ ?_
      rintro i ⟨hi, hI⟩
      (iterate 2 refine hw_seq ?_); refine hw_region (E := TryzE) Tryzok ?_; (iterate 4 refine rq rfl rfl rfl rfl rfl ?_); refine rg_nil ?_; show HW _ _ _ _ _; refine hw_cond _ rfl (fun r1 => ?_) (fun r1 => ?_)
      · skip
        have h1 := r1
        have h1 := of_decide_eq_true h1
        try simp only [Int.toNat_natCast] at h1
        refine hw_skip ?_; show HW _ _ _ _ _; refine hw_seq ?_; refine hw_block ?_; refine hw_seq ?_; refine hw_draw (E := TryzE) Tryzok Tryzmixed [0, 1, 2, 3, 4, 5, 6, 7, 8] ?_; (iterate 9 refine rq rfl rfl rfl rfl rfl ?_)
        refine rg_nil ?_; refine ⟨by kernel_rfl, ?_⟩; show HW _ _ _ _ _; refine hw_cond _ rfl (fun r2 => ?_) (fun r2 => ?_)
        · skip
          have h2 := r2
          have h2 := of_decide_eq_false (not_t h2)
          try simp only [Int.toNat_natCast] at h2
          refine hw_seq ?_; refine hw_region (E := TryzE) Tryzok ?_; refine rq rfl rfl rfl rfl rfl ?_; refine rg_nil ?_; show HW _ _ _ _ _; refine hw_ret ?_; refine ⟨.inr rfl, ?_⟩
          exact ⟨_, _, _, _, rfl, (by (repeat' apply And.intro) <;> first | trivial | exact Nat.le_of_ble_eq_true rfl | rfl), rfl, (by (repeat' apply And.intro) <;> first | trivial | exact Nat.le_of_ble_eq_true rfl | rfl), ⟨ccb (decide_eq_false (fun e => h2 (by subst e; rfl))).symm, trivial⟩⟩
        · skip
          have h2 := r2
          have h2 := of_decide_eq_true (not_f h2)
          try simp only [Int.toNat_natCast] at h2
          refine hw_skip ?_; show HW _ _ _ _ _; refine hw_region (E := TryzE) Tryzok ?_; (iterate 3 refine rq rfl rfl rfl rfl rfl ?_); refine rg_nil ?_; refine ⟨i + 1, ?_, ?_, ?_⟩
          · exact ⟨by omega, all_succ hI (h2)⟩
          · first | omega | (dsimp only; omega)
          · exact ⟨⟨⟨_, rfl, (by first | exact CoR.refl _ | exact coi (by omega) | exact cob (by simp_all))⟩, ⟨_, rfl, CoR.refl _⟩, ⟨_, rfl, CoR.refl _⟩, trivial⟩, trivial⟩
      · skip
        have h1 := r1
        have h1 := of_decide_eq_false h1
        try simp only [Int.toNat_natCast] at h1
        refine hw_exit ?_; refine ⟨(), ?_, ?_⟩
        · exact list_eq (by omega) fun j hj => hI j (by omega)
        · exact ⟨trivial, trivial⟩
    · rintro _ hj
      refine hw_seq ?_; refine hw_region (E := TryzE) Tryzok ?_; refine rq rfl rfl rfl rfl rfl ?_; refine rg_nil ?_; show HW _ _ _ _ _; refine hw_ret ?_; refine ⟨.inr rfl, ?_⟩
      exact ⟨_, _, _, _, rfl, (by (repeat' apply And.intro) <;> first | trivial | exact Nat.le_of_ble_eq_true rfl | rfl), rfl, (by (repeat' apply And.intro) <;> first | trivial | exact Nat.le_of_ble_eq_true rfl | rfl), ⟨ccb (decide_eq_true hj).symm, trivial⟩⟩
theorem good47 : goodFn Tryz.prog 47 := ⟨Tryz.f47, Tryz.func47, by kernel_rfl, by kernel_rfl⟩
theorem c47 (a b : Tbl) (ha : a.ok) (hb : b.ok) : HPure Tryz.prog 47 [a.pc, b.pc] (prOf [pB (decide (a = b))]) := by
  refine hpure_of (nt := 47) Tryzok Tryz.func47 rfl rfl (Nat.le_of_ble_eq_true rfl) ?_; refine hw_seq ?_; refine hw_region (E := TryzE) Tryzok ?_; refine rm 0 rfl rfl rfl rfl rfl rfl ?_; refine rm 1 rfl rfl rfl rfl rfl rfl ?_
  refine rq rfl rfl rfl rfl rfl ?_; refine rg_nil ?_; show HW _ _ _ _ _; (iterate 2 refine hw_seq ?_); refine hw_bo 0 2 rfl rfl (fun hn => ?_); refine hw_region (E := TryzE) Tryzok ?_; (iterate 6 refine rq rfl rfl rfl rfl rfl ?_)
  refine rsplit rfl rfl (fun r0 => ?_) (fun r0 => ?_)
  · skip
    have h0 := r0
    have h0 := of_decide_eq_false (not_t h0)
    try simp only [Int.toNat_natCast] at h0
    (iterate 6 refine rk rfl rfl rfl (gtf r0) ?_); refine rq rfl rfl rfl rfl rfl ?_ (hp := r0); refine rq rfl rfl rfl rfl rfl ?_; (iterate 7 refine rk rfl rfl rfl rfl ?_); refine rq rfl rfl rfl rfl rfl ?_; refine rg_nil ?_
    show HW _ _ _ _ _; refine hw_cond _ rfl (fun _ => ?_) (fun e => by cases e); refine hw_seq ?_; refine hw_region (E := TryzE) Tryzok ?_; refine rq rfl rfl rfl rfl rfl ?_; refine rg_nil ?_; show HW _ _ _ _ _; refine hw_ret ?_
    refine ⟨.inr rfl, ?_⟩
    exact ⟨_, _, _, _, rfl, (by (repeat' apply And.intro) <;> first | trivial | exact Nat.le_of_ble_eq_true rfl | rfl), rfl, (by (repeat' apply And.intro) <;> first | trivial | exact Nat.le_of_ble_eq_true rfl | rfl), ⟨ccb (decide_eq_false (fun e => by subst e; simp_all)).symm, trivial⟩⟩
  · skip
    have h0 := r0
    have h0 := of_decide_eq_true (not_f h0)
    try simp only [Int.toNat_natCast] at h0
    (iterate 4 refine rq rfl rfl rfl rfl (gff r0) ?_); refine rc rfl rfl rfl rfl rfl rfl good75 (c75 _ _) (CoL.refl _) rfl (gff r0) ?_; refine rq rfl rfl rfl rfl (gff r0) ?_; (iterate 2 refine rq rfl rfl rfl rfl rfl ?_)
    refine rsplit rfl rfl (fun r1 => ?_) (fun r1 => ?_)
    · skip
      have h1 := r1
      have h1 := bif_f r0 h1
      have h1 := not_t h1
      (iterate 7 refine rk rfl rfl rfl (gtf r1) ?_); refine rq rfl rfl rfl rfl rfl ?_ (hp := r1); refine rg_nil ?_; show HW _ _ _ _ _; refine hw_cond _ rfl (fun _ => ?_) (fun e => by cases e); refine hw_seq ?_
      refine hw_region (E := TryzE) Tryzok ?_; refine rq rfl rfl rfl rfl rfl ?_; refine rg_nil ?_; show HW _ _ _ _ _; refine hw_ret ?_; refine ⟨.inr rfl, ?_⟩
      exact ⟨_, _, _, _, rfl, (by (repeat' apply And.intro) <;> first | trivial | exact Nat.le_of_ble_eq_true rfl | rfl), rfl, (by (repeat' apply And.intro) <;> first | trivial | exact Nat.le_of_ble_eq_true rfl | rfl), ⟨ccb (decide_eq_false (fun e => by subst e; simp_all)).symm, trivial⟩⟩
    · skip
      have h1 := r1
      have h1 := bif_f r0 h1
      have h1 := not_f h1
      (iterate 7 refine rq rfl rfl rfl rfl (gff r1) ?_); refine rq rfl rfl rfl rfl rfl ?_; refine rg_nil ?_; show HW _ _ _ _ _; refine hw_cond _ rfl (fun r2 => ?_) (fun r2 => ?_)
      · skip
        have h2 := r2
        have h2 := bif_f r1 h2
        have h2 := of_decide_eq_false (not_t h2)
        try simp only [Int.toNat_natCast] at h2
        refine hw_seq ?_; refine hw_region (E := TryzE) Tryzok ?_; refine rq rfl rfl rfl rfl rfl ?_; refine rg_nil ?_; show HW _ _ _ _ _; refine hw_ret ?_; refine ⟨.inr rfl, ?_⟩
        exact ⟨_, _, _, _, rfl, (by (repeat' apply And.intro) <;> first | trivial | exact Nat.le_of_ble_eq_true rfl | rfl), rfl, (by (repeat' apply And.intro) <;> first | trivial | exact Nat.le_of_ble_eq_true rfl | rfl), ⟨ccb (decide_eq_false (fun e => by subst e; simp_all)).symm, trivial⟩⟩
      · skip
        have h2 := r2
        have h2 := bif_f r1 h2
        have h2 := of_decide_eq_true (not_f h2)
        try simp only [Int.toNat_natCast] at h2
        refine hw_skip ?_; show HW _ _ _ _ _; refine hw_joinK (ι := Unit) ⟨[], []⟩ ⟨trivial, trivial⟩ (fun _i => ⟨[], []⟩) (fun _i => a = b) ?_ ?_
        · skip
          refine hw_seq ?_; refine hw_region (E := TryzE) Tryzok ?_; refine rq rfl rfl rfl rfl rfl ?_; refine rg_nil ?_; show HW _ _ _ _ _; refine hw_block ?_
          refine hw_loopK (ι := Nat) ⟨[(2, some _), (3, some _)], [(0, some _), (1, some _)]⟩ ⟨⟨⟨_, rfl, CoR.refl _⟩, ⟨_, rfl, CoR.refl _⟩, trivial⟩, ⟨⟨_, rfl, CoO.refl _⟩, ⟨_, rfl, CoO.refl _⟩, trivial⟩⟩ (fun i => ⟨[(5, some (vI i))], []⟩) (fun i => i ≤ a.rows.length ∧ ∀ j, j < i → a.rows.getD j default = b.rows.getD j default) (fun i => a.rows.length - i) (0) (⟨Nat.zero_le _, all_zero⟩) ⟨⟨⟨_, rfl, (by first | exact CoR.refl _ | exact coi (by omega) | exact cob (by simp_all))⟩, trivial⟩, trivial⟩ ?_
          rintro i ⟨hi, hI⟩
          (iterate 2 refine hw_seq ?_); refine hw_region (E := TryzE) Tryzok ?_; (iterate 5 refine rq rfl rfl rfl rfl rfl ?_); refine rg_nil ?_; show HW _ _ _ _ _; refine hw_cond _ rfl (fun r3 => ?_) (fun r3 => ?_)
          · skip
            have h3 := r3
            have h3 := of_decide_eq_true h3
            try simp only [Int.toNat_natCast] at h3
            refine hw_skip ?_; show HW _ _ _ _ _; refine hw_seq ?_; refine hw_block ?_; refine hw_seq ?_; refine hw_draw (E := TryzE) Tryzok Tryzmixed [0, 1, 2, 3, 4, 5, 6, 7, 8, 9, 10, 11] ?_
            (iterate 10 refine rq rfl rfl rfl rfl rfl ?_); refine rc rfl rfl rfl rfl rfl rfl good54 (c54 _ _ (ha.2.2 i (by omega)) (hb.2.2 i (by omega))) (CoL.refl _) rfl rfl ?_; refine rq rfl rfl rfl rfl rfl ?_; refine rg_nil ?_
            refine ⟨by kernel_rfl, ?_⟩; show HW _ _ _ _ _; refine hw_cond _ rfl (fun r4 => ?_) (fun r4 => ?_)
            · skip
              have h4 := r4
              have h4 := not_t h4
              have hN := of_decide_eq_false h4
              refine hw_seq ?_; refine hw_region (E := TryzE) Tryzok ?_; refine rq rfl rfl rfl rfl rfl ?_; refine rg_nil ?_; show HW _ _ _ _ _; refine hw_ret ?_; refine ⟨.inr rfl, ?_⟩
              exact ⟨_, _, _, _, rfl, (by (repeat' apply And.intro) <;> first | trivial | exact Nat.le_of_ble_eq_true rfl | rfl), rfl, (by (repeat' apply And.intro) <;> first | trivial | exact Nat.le_of_ble_eq_true rfl | rfl), ⟨ccb (decide_eq_false (fun e => by subst e; simp_all)).symm, trivial⟩⟩
            · skip
              have h4 := r4
              have h4 := not_f h4
              have hN := of_decide_eq_true h4
              refine hw_skip ?_; show HW _ _ _ _ _; refine hw_region (E := TryzE) Tryzok ?_; (iterate 3 refine rq rfl rfl rfl rfl rfl ?_); refine rg_nil ?_; refine ⟨i + 1, ?_, ?_, ?_⟩
              · exact ⟨by omega, all_succ hI (hN)⟩
              · first | omega | (dsimp only; omega)
              · exact ⟨⟨⟨_, rfl, (by first | exact CoR.refl _ | exact coi (by omega) | exact cob (by simp_all))⟩, ⟨_, rfl, CoR.refl _⟩, ⟨_, rfl, CoR.refl _⟩, trivial⟩, ⟨⟨_, rfl, CoO.refl _⟩, ⟨_, rfl, CoO.refl _⟩, trivial⟩⟩
          · skip
            have h3 := r3
            have h3 := of_decide_eq_false h3
            try simp only [Int.toNat_natCast] at h3
            refine hw_exit ?_; refine ⟨(), ?_, ?_⟩
            · exact Tbl.eq_iff.2 ⟨by assumption, by simp_all, list_eq (by omega) fun j hj => hI j (by omega)⟩
            · exact ⟨trivial, trivial⟩
        · rintro _ hj
          refine hw_seq ?_; refine hw_region (E := TryzE) Tryzok ?_; refine rq rfl rfl rfl rfl rfl ?_; refine rg_nil ?_; show HW _ _ _ _ _; refine hw_ret ?_; refine ⟨.inr rfl, ?_⟩
          exact ⟨_, _, _, _, rfl, (by (repeat' apply And.intro) <;> first | trivial | exact Nat.le_of_ble_eq_true rfl | rfl), rfl, (by (repeat' apply And.intro) <;> first | trivial | exact Nat.le_of_ble_eq_true rfl | rfl), ⟨ccb (decide_eq_true hj).symm, trivial⟩⟩
end Go.Hx
end
