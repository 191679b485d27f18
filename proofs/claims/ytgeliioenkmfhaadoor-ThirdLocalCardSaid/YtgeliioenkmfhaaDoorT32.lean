/- A part of the proof: lemmas for the theorem of this claim, merged by a program of ours out of V31, Cs33, V32. -/
import Derived.Test.YtgeliioenkmfhaaDoorT31
set_option linter.all false
section
namespace Go.Hx
open Go.Proofs
set_option maxRecDepth 100000
theorem good20 : goodFn Tryd.prog 20 := ⟨Tryd.f20, Tryd.func20, by kernel_rfl, by kernel_rfl⟩
theorem cTVios (n : Int) (l : List Fd) : HPure Tryd.prog 20 [pI n, pP (fdl l)] (prOf [pP (fdl (viosE n l)), pI (vErr n l)]) := by
  refine hpure_of (nt := 56) Trydok Tryd.func20 rfl rfl (Nat.le_of_ble_eq_true rfl) ?_; refine hw_seq ?_; refine hw_region (E := TrydE) Trydok ?_; (iterate 2 refine rq rfl rfl rfl rfl rfl ?_); refine rg_nil ?_; show HW _ _ _ _ _
  refine hw_seq ?_; refine hw_region (E := TrydE) Trydok ?_; (iterate 2 refine rq rfl rfl rfl rfl rfl ?_); refine rc rfl rfl rfl rfl rfl rfl good50 (cKPrime n l) (CoL.refl _) rfl rfl ?_; (iterate 5 refine rq rfl rfl rfl rfl rfl ?_)
  refine rg_nil ?_; show HW _ _ _ _ _; (iterate 2 refine hw_seq ?_); refine hw_region (E := TrydE) Trydok ?_; (iterate 2 refine rq rfl rfl rfl rfl rfl ?_); refine rg_nil ?_; show HW _ _ _ _ _
  refine hw_cond _ rfl (fun r0 => ?_) (fun r0 => ?_)
  · skip
    have h0 := r0
    have h0 := of_decide_eq_false (not_t h0)
    try simp only [Int.toNat_natCast] at h0
    refine hw_seq ?_; refine hw_region (E := TrydE) Trydok ?_; (iterate 3 refine rq rfl rfl rfl rfl rfl ?_); refine rg_nil ?_; show HW _ _ _ _ _; refine hw_ret ?_; refine ⟨.inr rfl, ?_⟩
    exact ⟨_, _, _, _, rfl, (by (repeat' apply And.intro) <;> first | trivial | exact Nat.le_of_ble_eq_true rfl | rfl), rfl, (by (repeat' apply And.intro) <;> first | trivial | exact Nat.le_of_ble_eq_true rfl | rfl), ⟨CoC.one (nilF (viosE_f h0)), CoC.refl _, trivial⟩⟩
  · skip
    have h0 := r0
    have h0 := of_decide_eq_true (not_f h0)
    try simp only [Int.toNat_natCast] at h0
    refine hw_skip ?_; show HW _ _ _ _ _; refine hw_seq ?_
    have hv := vErr_ok h0
    have hpe := prime_eq h0
    have hml := minE_len n l
    refine hw_region (E := TrydE) Trydok ?_; (iterate 2 refine rq rfl rfl rfl rfl rfl ?_); refine rc rfl rfl rfl rfl rfl rfl good51 (cCMin n l) (CoL.refl _) rfl rfl ?_; (iterate 5 refine rq rfl rfl rfl rfl rfl ?_); refine rg_nil ?_
    show HW _ _ _ _ _; (iterate 2 refine hw_seq ?_); refine hw_region (E := TrydE) Trydok ?_; (iterate 2 refine rq rfl rfl rfl rfl rfl ?_); refine rg_nil ?_; show HW _ _ _ _ _; refine hw_cond _ rfl (fun r1 => ?_) (fun r1 => ?_)
    · skip
      have h1 := r1
      have h1 := of_decide_eq_false (not_t h1)
      try simp only [Int.toNat_natCast] at h1
      exfalso
      exact h1 h0
    · skip
      have h1 := r1
      have h1 := of_decide_eq_true (not_f h1)
      try simp only [Int.toNat_natCast] at h1
      refine hw_skip ?_; show HW _ _ _ _ _; refine hw_seq ?_; refine hw_region (E := TrydE) Trydok ?_; refine rq rfl rfl rfl rfl rfl ?_; refine rg_nil ?_; show HW _ _ _ _ _; (iterate 2 refine hw_seq ?_)
      refine hw_region (E := TrydE) Trydok ?_; (iterate 3 refine rq rfl rfl rfl rfl rfl ?_); refine rg_nil ?_; show HW _ _ _ _ _; refine hw_block ?_
      refine hw_adopt 9 900 true 2 32 (lf Fd.c []) (by decide) rfl (CoP.sl rfl (.inr rfl) (fun h => h) (fun i j hi _ => absurd hi (Nat.not_lt_zero i))) (.inr rfl) rfl ?_
      refine hw_loopK (ι := Nat) ⟨[(0, some _), (1, some _), (6, some _), (30, some _), (31, some _)], []⟩ ⟨⟨⟨_, rfl, CoR.refl _⟩, ⟨_, rfl, CoR.refl _⟩, ⟨_, rfl, CoR.refl _⟩, ⟨_, rfl, CoR.refl _⟩, ⟨_, rfl, CoR.refl _⟩, trivial⟩, trivial⟩ (fun i => ⟨[(9, some (.v (.one (.ref 900 (viosT n l i).length)))), (32, some (vI i))], [(900, some (.arr true 2 32 (viosT n l i).length (lf Fd.c (viosT n l i))))]⟩) (fun i => i ≤ (minE n l).length) (fun i => (minE n l).length - i) (0) (Nat.zero_le _) ⟨⟨⟨_, rfl, (by first | exact CoR.refl _ | exact coi (by omega) | exact cob (by simp_all))⟩, ⟨_, rfl, (by first | exact CoR.refl _ | exact coi (by omega) | exact cob (by simp_all))⟩, trivial⟩, ⟨⟨_, rfl, CoO.refl _⟩, trivial⟩⟩ ?_
      rintro i hi
      have hlen := viosT_len n l i
      refine hw_seq ?_; refine hw_region (E := TrydE) Trydok ?_; refine rq rfl rfl rfl rfl rfl ?_; refine rg_nil ?_; show HW _ _ _ _ _; refine hw_seq ?_; refine hw_cond _ rfl (fun r2 => ?_) (fun r2 => ?_)
      · skip
        have h2 := r2
        have h2 := of_decide_eq_true h2
        try simp only [Int.toNat_natCast] at h2
        refine hw_skip ?_; show HW _ _ _ _ _; refine hw_seq ?_; refine hw_block ?_; refine hw_seq ?_; refine hw_region (E := TrydE) Trydok ?_; (iterate 2 refine rq rfl rfl rfl rfl rfl ?_); refine rm 0 rfl rfl rfl rfl rfl rfl ?_
        refine rs rfl rfl rfl rfl rfl ?_; refine rg_nil ?_; show HW _ _ _ _ _; refine hw_seq ?_; refine hw_region (E := TrydE) Trydok ?_; (iterate 3 refine rq rfl rfl rfl rfl rfl ?_)
        refine rc rfl rfl rfl rfl rfl rfl good46 (cClose l ((minE n l).getD i default).lhs) (CoL.refl _) rfl rfl ?_; refine rq rfl rfl rfl rfl rfl ?_
        refine rc rfl rfl rfl rfl rfl rfl good52 (cTFull n hv.1 hv.2.1) (CoL.refl _) rfl rfl ?_; (iterate 2 refine rq rfl rfl rfl rfl rfl ?_); refine rsplit rfl rfl (fun r3 => ?_) (fun r3 => ?_)
        · skip
          have h3 := r3
          have h3 := of_decide_eq_false (not_t h3)
          try simp only [Int.toNat_natCast] at h3
          (iterate 5 refine rq rfl rfl rfl rfl (gtt r3) ?_); refine rq rfl rfl rfl rfl rfl ?_; refine rg_nil ?_; show HW _ _ _ _ _; refine hw_cond _ rfl (fun r4 => ?_) (fun r4 => ?_)
          · skip
            have h4 := r4
            have h4 := bif_t r3 h4
            have h4 := of_decide_eq_false (not_t h4)
            try simp only [Int.toNat_natCast] at h4
            refine hw_region (E := TrydE) Trydok ?_; (iterate 2 refine rq rfl rfl rfl rfl rfl ?_); refine rm 1 rfl rfl rfl rfl rfl rfl ?_; refine ra 2 true rfl rfl rfl rfl rfl rfl ?_; refine rq rfl rfl rfl rfl rfl ?_
            refine rg_nil ?_; show HW _ _ _ _ _; refine hw_region (E := TrydE) Trydok ?_; (iterate 2 refine rq rfl rfl rfl rfl rfl ?_); refine rg_nil ?_
            first | (refine ⟨i + 1, ?_, ?_, ?_⟩
                     · show i + 1 ≤ _; omega
                     · first | omega | (dsimp only; omega)
                     · exact ⟨⟨⟨_, rfl, (ref_app (viosT_t (by omega) (vio3_t h3 (by rw [← hpe]; exact h4))))⟩, ⟨_, rfl, (by first | exact CoR.refl _ | exact coi (by omega) | exact cob (by simp_all))⟩, ⟨_, rfl, CoR.refl _⟩, ⟨_, rfl, CoR.refl _⟩, ⟨_, rfl, CoR.refl _⟩, ⟨_, rfl, CoR.refl _⟩, ⟨_, rfl, CoR.refl _⟩, trivial⟩, ⟨⟨_, rfl, (arr_app2 (viosT_t (by omega) (vio3_t h3 (by rw [← hpe]; exact h4))) (CoP.refl _) (CoP.refl _))⟩, trivial⟩⟩)
                  | (refine ⟨i + 1, ?_, ?_, ?_⟩
                     · show i + 1 ≤ _; omega
                     · first | omega | (dsimp only; omega)
                     · exact ⟨⟨⟨_, rfl, (ref_same (viosT_f (by omega) (by first | exact vio3_f1 h3 | exact vio3_f2 (by rw [← hpe]; exact h4))))⟩, ⟨_, rfl, (by first | exact CoR.refl _ | exact coi (by omega) | exact cob (by simp_all))⟩, ⟨_, rfl, CoR.refl _⟩, ⟨_, rfl, CoR.refl _⟩, ⟨_, rfl, CoR.refl _⟩, ⟨_, rfl, CoR.refl _⟩, ⟨_, rfl, CoR.refl _⟩, trivial⟩, ⟨⟨_, rfl, (arr_same (viosT_f (by omega) (by first | exact vio3_f1 h3 | exact vio3_f2 (by rw [← hpe]; exact h4))))⟩, trivial⟩⟩)
          · skip
            have h4 := r4
            have h4 := bif_t r3 h4
            have h4 := of_decide_eq_true (not_f h4)
            try simp only [Int.toNat_natCast] at h4
            refine hw_skip ?_; show HW _ _ _ _ _; refine hw_region (E := TrydE) Trydok ?_; (iterate 2 refine rq rfl rfl rfl rfl rfl ?_); refine rg_nil ?_
            first | (refine ⟨i + 1, ?_, ?_, ?_⟩
                     · show i + 1 ≤ _; omega
                     · first | omega | (dsimp only; omega)
                     · exact ⟨⟨⟨_, rfl, (ref_app (viosT_t (by omega) (vio3_t h3 (by rw [← hpe]; exact h4))))⟩, ⟨_, rfl, (by first | exact CoR.refl _ | exact coi (by omega) | exact cob (by simp_all))⟩, ⟨_, rfl, CoR.refl _⟩, ⟨_, rfl, CoR.refl _⟩, ⟨_, rfl, CoR.refl _⟩, ⟨_, rfl, CoR.refl _⟩, ⟨_, rfl, CoR.refl _⟩, trivial⟩, ⟨⟨_, rfl, (arr_app2 (viosT_t (by omega) (vio3_t h3 (by rw [← hpe]; exact h4))) (CoP.refl _) (CoP.refl _))⟩, trivial⟩⟩)
                  | (refine ⟨i + 1, ?_, ?_, ?_⟩
                     · show i + 1 ≤ _; omega
                     · first | omega | (dsimp only; omega)
                     · exact ⟨⟨⟨_, rfl, (ref_same (viosT_f (by omega) (by first | exact vio3_f1 h3 | exact vio3_f2 (by rw [← hpe]; exact h4))))⟩, ⟨_, rfl, (by first | exact CoR.refl _ | exact coi (by omega) | exact cob (by simp_all))⟩, ⟨_, rfl, CoR.refl _⟩, ⟨_, rfl, CoR.refl _⟩, ⟨_, rfl, CoR.refl _⟩, ⟨_, rfl, CoR.refl _⟩, ⟨_, rfl, CoR.refl _⟩, trivial⟩, ⟨⟨_, rfl, (arr_same (viosT_f (by omega) (by first | exact vio3_f1 h3 | exact vio3_f2 (by rw [← hpe]; exact h4))))⟩, trivial⟩⟩)
        · skip
          have h3 := r3
          have h3 := of_decide_eq_true (not_f h3)
          try simp only [Int.toNat_natCast] at h3
          (iterate 5 refine rk rfl rfl rfl (gft r3) ?_); refine rq rfl rfl rfl rfl rfl ?_ (hp := r3); refine rg_nil ?_; show HW _ _ _ _ _; refine hw_cond _ rfl (fun e => by cases e) (fun _ => ?_); refine hw_skip ?_
          show HW _ _ _ _ _; refine hw_region (E := TrydE) Trydok ?_; (iterate 2 refine rq rfl rfl rfl rfl rfl ?_); refine rg_nil ?_
          first | (refine ⟨i + 1, ?_, ?_, ?_⟩
                   · show i + 1 ≤ _; omega
                   · first | omega | (dsimp only; omega)
                   · exact ⟨⟨⟨_, rfl, (ref_app (viosT_t (by omega) (vio3_t h3 (by rw [← hpe]; exact h4))))⟩, ⟨_, rfl, (by first | exact CoR.refl _ | exact coi (by omega) | exact cob (by simp_all))⟩, ⟨_, rfl, CoR.refl _⟩, ⟨_, rfl, CoR.refl _⟩, ⟨_, rfl, CoR.refl _⟩, ⟨_, rfl, CoR.refl _⟩, ⟨_, rfl, CoR.refl _⟩, trivial⟩, ⟨⟨_, rfl, (arr_app2 (viosT_t (by omega) (vio3_t h3 (by rw [← hpe]; exact h4))) (CoP.refl _) (CoP.refl _))⟩, trivial⟩⟩)
                | (refine ⟨i + 1, ?_, ?_, ?_⟩
                   · show i + 1 ≤ _; omega
                   · first | omega | (dsimp only; omega)
                   · exact ⟨⟨⟨_, rfl, (ref_same (viosT_f (by omega) (by first | exact vio3_f1 h3 | exact vio3_f2 (by rw [← hpe]; exact h4))))⟩, ⟨_, rfl, (by first | exact CoR.refl _ | exact coi (by omega) | exact cob (by simp_all))⟩, ⟨_, rfl, CoR.refl _⟩, ⟨_, rfl, CoR.refl _⟩, ⟨_, rfl, CoR.refl _⟩, ⟨_, rfl, CoR.refl _⟩, ⟨_, rfl, CoR.refl _⟩, trivial⟩, ⟨⟨_, rfl, (arr_same (viosT_f (by omega) (by first | exact vio3_f1 h3 | exact vio3_f2 (by rw [← hpe]; exact h4))))⟩, trivial⟩⟩)
      · skip
        have h2 := r2
        have h2 := of_decide_eq_false h2
        try simp only [Int.toNat_natCast] at h2
        obtain rfl : i = (minE n l).length := by omega
        refine hw_exit ?_; show HW _ _ _ _ _; refine hw_seq ?_; refine hw_region (E := TrydE) Trydok ?_; (iterate 3 refine rq rfl rfl rfl rfl rfl ?_); refine rg_nil ?_; refine hw_freeze 4 rfl rfl rfl ?_; show HW _ _ _ _ _
        refine hw_ret ?_; refine ⟨.inr rfl, ?_⟩
        exact ⟨_, _, _, _, rfl, (by (repeat' apply And.intro) <;> first | trivial | exact Nat.le_of_ble_eq_true rfl | rfl), rfl, (by (repeat' apply And.intro) <;> first | trivial | exact Nat.le_of_ble_eq_true rfl | rfl), ⟨CoC.one (CoP.of_eq (by rw [viosT_end]; rfl)), cci (by omega), trivial⟩⟩
theorem good21 : goodFn Tryd.prog 21 := ⟨Tryd.f21, Tryd.func21, by kernel_rfl, by kernel_rfl⟩
theorem cR23Vios (n : Int) (l : List Fd) : HPure Tryd.prog 21 [pI n, pP (fdl l)] (prOf [pP (fdl (viosE n l)), pI (vErr n l)]) := by
  refine hpure_of (nt := 58) Trydok Tryd.func21 rfl rfl (Nat.le_of_ble_eq_true rfl) ?_; refine hw_seq ?_; refine hw_region (E := TrydE) Trydok ?_; (iterate 2 refine rq rfl rfl rfl rfl rfl ?_); refine rg_nil ?_; show HW _ _ _ _ _
  refine hw_seq ?_; refine hw_region (E := TrydE) Trydok ?_; (iterate 2 refine rq rfl rfl rfl rfl rfl ?_); refine rc rfl rfl rfl rfl rfl rfl good53 (cRCMin n l) (CoL.refl _) rfl rfl ?_; (iterate 5 refine rq rfl rfl rfl rfl rfl ?_)
  refine rg_nil ?_; show HW _ _ _ _ _; (iterate 2 refine hw_seq ?_); refine hw_region (E := TrydE) Trydok ?_; (iterate 2 refine rq rfl rfl rfl rfl rfl ?_); refine rg_nil ?_; show HW _ _ _ _ _
  refine hw_cond _ rfl (fun r0 => ?_) (fun r0 => ?_)
  · skip
    have h0 := r0
    have h0 := of_decide_eq_false (not_t h0)
    try simp only [Int.toNat_natCast] at h0
    refine hw_seq ?_; refine hw_region (E := TrydE) Trydok ?_; (iterate 3 refine rq rfl rfl rfl rfl rfl ?_); refine rg_nil ?_; show HW _ _ _ _ _; refine hw_ret ?_; refine ⟨.inr rfl, ?_⟩
    exact ⟨_, _, _, _, rfl, (by (repeat' apply And.intro) <;> first | trivial | exact Nat.le_of_ble_eq_true rfl | rfl), rfl, (by (repeat' apply And.intro) <;> first | trivial | exact Nat.le_of_ble_eq_true rfl | rfl), ⟨CoC.one (nilF (viosE_f h0)), CoC.refl _, trivial⟩⟩
  · skip
    have h0 := r0
    have h0 := of_decide_eq_true (not_f h0)
    try simp only [Int.toNat_natCast] at h0
    refine hw_skip ?_; show HW _ _ _ _ _; refine hw_seq ?_
    have hv := vErr_ok h0
    have hfn := full_n hv.1 hv.2.1
    have hfe : asI (fullI n) = ((fullI n).toNat : Int) := rfl
    have hml := minE_len n l
    refine hw_region (E := TrydE) Trydok ?_; (iterate 2 refine rq rfl rfl rfl rfl rfl ?_); refine rc rfl rfl rfl rfl rfl rfl good28 (cRFull n) (CoL.refl _) rfl rfl ?_
    refine rc rfl rfl rfl rfl rfl rfl good54 (cR23Prime l (fullI n) (by omega)) (CoL.refl _) rfl rfl ?_; refine rq rfl rfl rfl rfl rfl ?_; refine rg_nil ?_; show HW _ _ _ _ _; refine hw_seq ?_
    refine hw_region (E := TrydE) Trydok ?_; refine rq rfl rfl rfl rfl rfl ?_; refine rg_nil ?_; show HW _ _ _ _ _; (iterate 2 refine hw_seq ?_); refine hw_region (E := TrydE) Trydok ?_; refine rq rfl rfl rfl rfl rfl ?_
    refine rg_nil ?_; show HW _ _ _ _ _; refine hw_block ?_; refine hw_adopt 9 900 true 2 32 (lf Fd.c []) (by decide) rfl (CoP.sl rfl (.inr rfl) (fun h => h) (fun i j hi _ => absurd hi (Nat.not_lt_zero i))) (.inr rfl) rfl ?_
    refine hw_loopK (ι := Nat) ⟨[(0, some _), (1, some _), (6, some _), (8, some _)], []⟩ ⟨⟨⟨_, rfl, CoR.refl _⟩, ⟨_, rfl, CoR.refl _⟩, ⟨_, rfl, CoR.refl _⟩, ⟨_, rfl, CoR.refl _⟩, trivial⟩, trivial⟩ (fun i => ⟨[(9, some (.v (.one (.ref 900 (viosT n l i).length)))), (10, some (vI i))], [(900, some (.arr true 2 32 (viosT n l i).length (lf Fd.c (viosT n l i))))]⟩) (fun i => i ≤ (minE n l).length) (fun i => (minE n l).length - i) (0) (Nat.zero_le _) ⟨⟨⟨_, rfl, (by first | exact CoR.refl _ | exact coi (by omega) | exact cob (by simp_all))⟩, ⟨_, rfl, (by first | exact CoR.refl _ | exact coi (by omega) | exact cob (by simp_all))⟩, trivial⟩, ⟨⟨_, rfl, CoO.refl _⟩, trivial⟩⟩ ?_
    rintro i hi
    have hlen := viosT_len n l i
    (iterate 2 refine hw_seq ?_); refine hw_region (E := TrydE) Trydok ?_; (iterate 4 refine rq rfl rfl rfl rfl rfl ?_); refine rg_nil ?_; show HW _ _ _ _ _; refine hw_cond _ rfl (fun r1 => ?_) (fun r1 => ?_)
    · skip
      have h1 := r1
      have h1 := of_decide_eq_true h1
      try simp only [Int.toNat_natCast] at h1
      refine hw_skip ?_; show HW _ _ _ _ _; refine hw_seq ?_; refine hw_block ?_; refine hw_seq ?_; refine hw_draw (E := TrydE) Trydok Trydmixed [0, 1, 2, 3, 4, 5, 6, 7, 8, 9, 10, 11, 12, 13, 14, 15, 16, 17, 18, 19] ?_
      (iterate 7 refine rq rfl rfl rfl rfl rfl ?_); refine rc rfl rfl rfl rfl rfl rfl good28 (cRFull n) (CoL.refl _) rfl rfl ?_
      refine rc rfl rfl rfl rfl rfl rfl good55 (cRSk l ((minE n l).getD i default).lhs (fullI n)) (CoL.refl _) rfl rfl ?_; (iterate 2 refine rq rfl rfl rfl rfl rfl ?_); refine rsplit rfl rfl (fun r2 => ?_) (fun r2 => ?_)
      · skip
        have h2 := r2
        have h2 := not_t h2
        (iterate 8 refine rq rfl rfl rfl rfl (gtt r2) ?_); refine rq rfl rfl rfl rfl rfl ?_; refine rg_nil ?_; refine ⟨by kernel_rfl, ?_⟩; show HW _ _ _ _ _; refine hw_cond _ rfl (fun r3 => ?_) (fun r3 => ?_)
        · skip
          have h3 := r3
          have h3 := bif_t r2 h3
          have h3 := of_decide_eq_false (not_t h3)
          try simp only [Int.toNat_natCast] at h3
          refine hw_region (E := TrydE) Trydok ?_; (iterate 5 refine rq rfl rfl rfl rfl rfl ?_); refine rm 0 rfl rfl rfl rfl rfl rfl ?_; refine ra 1 true rfl rfl rfl rfl rfl rfl ?_; refine rq rfl rfl rfl rfl rfl ?_; refine rg_nil ?_
          show HW _ _ _ _ _; refine hw_region (E := TrydE) Trydok ?_; (iterate 3 refine rq rfl rfl rfl rfl rfl ?_); refine rg_nil ?_
          first | (refine ⟨i + 1, ?_, ?_, ?_⟩
                   · show i + 1 ≤ _; omega
                   · first | omega | (dsimp only; omega)
                   · exact ⟨⟨⟨_, rfl, (ref_app (viosT_t (by omega) (vio3_t' h0 (by omega) h2 h3)))⟩, ⟨_, rfl, (by first | exact CoR.refl _ | exact coi (by omega) | exact cob (by simp_all))⟩, ⟨_, rfl, CoR.refl _⟩, ⟨_, rfl, CoR.refl _⟩, ⟨_, rfl, CoR.refl _⟩, ⟨_, rfl, CoR.refl _⟩, trivial⟩, ⟨⟨_, rfl, (arr_app2 (viosT_t (by omega) (vio3_t' h0 (by omega) h2 h3)) (CoP.refl _) (CoP.refl _))⟩, trivial⟩⟩)
                | (refine ⟨i + 1, ?_, ?_, ?_⟩
                   · show i + 1 ≤ _; omega
                   · first | omega | (dsimp only; omega)
                   · exact ⟨⟨⟨_, rfl, (ref_same (viosT_f (by omega) (by first | exact vio3_f1' h0 (by omega) h2 | exact vio3_f2 h3)))⟩, ⟨_, rfl, (by first | exact CoR.refl _ | exact coi (by omega) | exact cob (by simp_all))⟩, ⟨_, rfl, CoR.refl _⟩, ⟨_, rfl, CoR.refl _⟩, ⟨_, rfl, CoR.refl _⟩, ⟨_, rfl, CoR.refl _⟩, trivial⟩, ⟨⟨_, rfl, (arr_same (viosT_f (by omega) (by first | exact vio3_f1' h0 (by omega) h2 | exact vio3_f2 h3)))⟩, trivial⟩⟩)
        · skip
          have h3 := r3
          have h3 := bif_t r2 h3
          have h3 := of_decide_eq_true (not_f h3)
          try simp only [Int.toNat_natCast] at h3
          refine hw_skip ?_; show HW _ _ _ _ _; refine hw_region (E := TrydE) Trydok ?_; (iterate 3 refine rq rfl rfl rfl rfl rfl ?_); refine rg_nil ?_
          first | (refine ⟨i + 1, ?_, ?_, ?_⟩
                   · show i + 1 ≤ _; omega
                   · first | omega | (dsimp only; omega)
                   · exact ⟨⟨⟨_, rfl, (ref_app (viosT_t (by omega) (vio3_t' h0 (by omega) h2 h3)))⟩, ⟨_, rfl, (by first | exact CoR.refl _ | exact coi (by omega) | exact cob (by simp_all))⟩, ⟨_, rfl, CoR.refl _⟩, ⟨_, rfl, CoR.refl _⟩, ⟨_, rfl, CoR.refl _⟩, ⟨_, rfl, CoR.refl _⟩, trivial⟩, ⟨⟨_, rfl, (arr_app2 (viosT_t (by omega) (vio3_t' h0 (by omega) h2 h3)) (CoP.refl _) (CoP.refl _))⟩, trivial⟩⟩)
                | (refine ⟨i + 1, ?_, ?_, ?_⟩
                   · show i + 1 ≤ _; omega
                   · first | omega | (dsimp only; omega)
                   · exact ⟨⟨⟨_, rfl, (ref_same (viosT_f (by omega) (by first | exact vio3_f1' h0 (by omega) h2 | exact vio3_f2 h3)))⟩, ⟨_, rfl, (by first | exact CoR.refl _ | exact coi (by omega) | exact cob (by simp_all))⟩, ⟨_, rfl, CoR.refl _⟩, ⟨_, rfl, CoR.refl _⟩, ⟨_, rfl, CoR.refl _⟩, ⟨_, rfl, CoR.refl _⟩, trivial⟩, ⟨⟨_, rfl, (arr_same (viosT_f (by omega) (by first | exact vio3_f1' h0 (by omega) h2 | exact vio3_f2 h3)))⟩, trivial⟩⟩)
      · skip
        have h2 := r2
        have h2 := not_f h2
        (iterate 8 refine rk rfl rfl rfl (gft r2) ?_); refine rq rfl rfl rfl rfl rfl ?_ (hp := r2); refine rg_nil ?_; refine ⟨by kernel_rfl, ?_⟩; show HW _ _ _ _ _; refine hw_cond _ rfl (fun e => by cases e) (fun _ => ?_)
        refine hw_skip ?_; show HW _ _ _ _ _; refine hw_region (E := TrydE) Trydok ?_; (iterate 3 refine rq rfl rfl rfl rfl rfl ?_); refine rg_nil ?_
        first | (refine ⟨i + 1, ?_, ?_, ?_⟩
                 · show i + 1 ≤ _; omega
                 · first | omega | (dsimp only; omega)
                 · exact ⟨⟨⟨_, rfl, (ref_app (viosT_t (by omega) (vio3_t' h0 (by omega) h2 h3)))⟩, ⟨_, rfl, (by first | exact CoR.refl _ | exact coi (by omega) | exact cob (by simp_all))⟩, ⟨_, rfl, CoR.refl _⟩, ⟨_, rfl, CoR.refl _⟩, ⟨_, rfl, CoR.refl _⟩, ⟨_, rfl, CoR.refl _⟩, trivial⟩, ⟨⟨_, rfl, (arr_app2 (viosT_t (by omega) (vio3_t' h0 (by omega) h2 h3)) (CoP.refl _) (CoP.refl _))⟩, trivial⟩⟩)
              | (refine ⟨i + 1, ?_, ?_, ?_⟩
                 · show i + 1 ≤ _; omega
                 · first | omega | (dsimp only; omega)
                 · exact ⟨⟨⟨_, rfl, (ref_same (viosT_f (by omega) (by first | exact vio3_f1' h0 (by omega) h2 | exact vio3_f2 h3)))⟩, ⟨_, rfl, (by first | exact CoR.refl _ | exact coi (by omega) | exact cob (by simp_all))⟩, ⟨_, rfl, CoR.refl _⟩, ⟨_, rfl, CoR.refl _⟩, ⟨_, rfl, CoR.refl _⟩, ⟨_, rfl, CoR.refl _⟩, trivial⟩, ⟨⟨_, rfl, (arr_same (viosT_f (by omega) (by first | exact vio3_f1' h0 (by omega) h2 | exact vio3_f2 h3)))⟩, trivial⟩⟩)
    · skip
      have h1 := r1
      have h1 := of_decide_eq_false h1
      try simp only [Int.toNat_natCast] at h1
      obtain rfl : i = (minE n l).length := by omega
      refine hw_exit ?_; show HW _ _ _ _ _; refine hw_seq ?_; refine hw_region (E := TrydE) Trydok ?_; (iterate 3 refine rq rfl rfl rfl rfl rfl ?_); refine rg_nil ?_; refine hw_freeze 4 rfl rfl rfl ?_; show HW _ _ _ _ _
      refine hw_ret ?_; refine ⟨.inr rfl, ?_⟩
      exact ⟨_, _, _, _, rfl, (by (repeat' apply And.intro) <;> first | trivial | exact Nat.le_of_ble_eq_true rfl | rfl), rfl, (by (repeat' apply And.intro) <;> first | trivial | exact Nat.le_of_ble_eq_true rfl | rfl), ⟨CoC.one (CoP.of_eq (by rw [viosT_end]; rfl)), cci (by omega), trivial⟩⟩
theorem good14 : goodFn Tryd.prog 14 := ⟨Tryd.f14, Tryd.func14, by kernel_rfl, by kernel_rfl⟩
theorem cTIs (n : Int) (l : List Fd) : HPure Tryd.prog 14 [pI n, pP (fdl l)] (prOf [pB (decide (vErr n l = 0) && decide (viosE n l = [])), pI (vErr n l)]) := by
  refine hpure_of (nt := 22) Trydok Tryd.func14 rfl rfl (Nat.le_of_ble_eq_true rfl) ?_; refine hw_seq ?_; refine hw_region (E := TrydE) Trydok ?_; (iterate 2 refine rq rfl rfl rfl rfl rfl ?_); refine rg_nil ?_; show HW _ _ _ _ _
  refine hw_seq ?_; refine hw_region (E := TrydE) Trydok ?_; (iterate 2 refine rq rfl rfl rfl rfl rfl ?_); refine rc rfl rfl rfl rfl rfl rfl good20 (cTVios n l) (CoL.refl _) rfl rfl ?_; (iterate 5 refine rq rfl rfl rfl rfl rfl ?_)
  refine rg_nil ?_; show HW _ _ _ _ _; refine hw_seq ?_; refine hw_region (E := TrydE) Trydok ?_; (iterate 3 refine rq rfl rfl rfl rfl rfl ?_); refine rsplit rfl rfl (fun r0 => ?_) (fun r0 => ?_)
  · skip
    have h0 := r0
    have h0 := of_decide_eq_true h0
    try simp only [Int.toNat_natCast] at h0
    (iterate 3 refine rq rfl rfl rfl rfl (gtt r0) ?_); (iterate 4 refine rq rfl rfl rfl rfl rfl ?_); refine rg_nil ?_; show HW _ _ _ _ _; refine hw_ret ?_; refine ⟨.inr rfl, ?_⟩
    exact ⟨_, _, _, _, rfl, (by (repeat' apply And.intro) <;> first | trivial | exact Nat.le_of_ble_eq_true rfl | rfl), rfl, (by (repeat' apply And.intro) <;> first | trivial | exact Nat.le_of_ble_eq_true rfl | rfl), ⟨ccb (by first | exact is3_t | (rw [decide_eq_false h0]; rfl)), CoC.refl _, trivial⟩⟩
  · skip
    have h0 := r0
    have h0 := of_decide_eq_false h0
    try simp only [Int.toNat_natCast] at h0
    (iterate 3 refine rk rfl rfl rfl (gft r0) ?_); refine rq rfl rfl rfl rfl rfl ?_ (hp := r0); (iterate 3 refine rq rfl rfl rfl rfl rfl ?_); refine rg_nil ?_; show HW _ _ _ _ _; refine hw_ret ?_; refine ⟨.inr rfl, ?_⟩
    exact ⟨_, _, _, _, rfl, (by (repeat' apply And.intro) <;> first | trivial | exact Nat.le_of_ble_eq_true rfl | rfl), rfl, (by (repeat' apply And.intro) <;> first | trivial | exact Nat.le_of_ble_eq_true rfl | rfl), ⟨ccb (by first | exact is3_t | (rw [decide_eq_false h0]; rfl)), CoC.refl _, trivial⟩⟩
end Go.Hx
end
section
namespace Go.Hx
def secK (l : List Fd) (pr k : AS) : Bool := (List.range 32).all fun a => !k.getLsbD a || decide (sub (clo l (noA k a)) pr)
def secS (n : Int) (l : List Fd) : Bool := (keysL n l).all (secK l (orL (keysL n l)))
def secR (n : Int) (l : List Fd) : Bool := decide (vErr n l = 0) && secS n l
section
variable {l : List Fd} {pr k : AS}
theorem secK_f {a : Nat} (ha : a < 32) (h : k.getLsbD a = true) (h2 : ¬ sub (clo l (noA k a)) pr) : secK l pr k = false := by
  unfold secK
  rw [List.all_eq_false]
  exact ⟨a, List.mem_range.2 ha, by rw [h, decide_eq_false h2]; decide⟩
theorem secK_t (h : ∀ a, a < 32 → k.getLsbD a = true → sub (clo l (noA k a)) pr) : secK l pr k = true := by
  unfold secK
  rw [List.all_eq_true]
  intro a ha
  cases hk : k.getLsbD a with
  | false => rfl
  | true => rw [decide_eq_true (h a (List.mem_range.1 ha) hk)]; rfl
def SecI (l : List Fd) (pr k r : AS) : Prop := sub r k ∧ ∀ a, a < 32 → k.getLsbD a = true → r.getLsbD a = true ∨ sub (clo l (noA k a)) pr
theorem sec_zero (l : List Fd) (pr k : AS) : SecI l pr k k := ⟨sub_refl k, fun a _ h => .inl h⟩
theorem sec_low {r : AS} (h : SecI l pr k r) (h0 : r ≠ 0) : lowB r < 32 ∧ k.getLsbD (lowB r) = true := by
  obtain ⟨h1, h2, _, _⟩ := low_bit h0
  exact ⟨h1, sub_bit.1 h.1 _ h1 h2⟩
theorem sec_next {r : AS} (h : SecI l pr k r) (h0 : r ≠ 0) (hf : sub (clo l (noA k (lowB r))) pr) : SecI l pr k (r &&& (r - 1)) := by
  obtain ⟨h1, h2, h3, h4⟩ := low_bit h0
  rw [h4]
  refine ⟨sub_trans sub_and_r h.1, fun a ha hx => ?_⟩
  rcases h.2 a ha hx with h5 | h5
  · by_cases hl : a = lowB r
    · subst hl; exact .inr hf
    · refine .inl ?_
      have h6 : ((1 : AS) <<< lowB r).getLsbD a = decide (a = lowB r) := bit_one _ a ha
      rw [BitVec.getLsbD_and, BitVec.getLsbD_not, decide_eq_true ha, Bool.true_and, h5, h6, decide_eq_false hl]
      rfl
  · exact .inr h5
theorem sec_end {r : AS} (h : SecI l pr k r) (h0 : r = 0) : secK l pr k = true := secK_t fun a ha hx => by
  rcases h.2 a ha hx with h5 | h5
  · subst h0; simp at h5
  · exact h5
def SecJ (l : List Fd) (pr k : AS) (s : Nat) : Prop := ∀ j, j < s → sub (BitVec.ofNat 32 j) k → sub (clo l (BitVec.ofNat 32 j)) pr
theorem secJ_zero (l : List Fd) (pr k : AS) : SecJ l pr k 0 := fun j hj => absurd hj (Nat.not_lt_zero _)
theorem secJ_next {s : Nat} (h : SecJ l pr k s) (h2 : ¬ sub (BitVec.ofNat 32 s) k ∨ sub (clo l (BitVec.ofNat 32 s)) pr) : SecJ l pr k (s + 1) := fun j hj hs => by
  by_cases e : j = s
  · subst e
    rcases h2 with h2 | h2
    · exact absurd hs h2
    · exact h2
  · exact h j (by omega) hs
theorem noA_lt {a : Nat} (ha : a < 32) (h : k.getLsbD a = true) : (noA k a).toNat < k.toNat := by
  refine sub_lt noA_sub fun e => ?_
  have e1 := congrArg (fun z : AS => z.getLsbD a) e
  unfold noA at e1
  have h1 : ((1 : AS) <<< a).getLsbD a = decide (a = a) := bit_one a a ha
  simp only [BitVec.getLsbD_and, BitVec.getLsbD_not, h1, h] at e1
  simp at e1
theorem secJ_end {s : Nat} (h : SecJ l pr k s) (hs : k.toNat ≤ s) : secK l pr k = true := secK_t fun a ha hx => by
  have hl := noA_lt ha hx
  have := h (noA k a).toNat (by omega)
  rw [BitVec.ofNat_toNat, BitVec.setWidth_eq] at this
  exact this noA_sub
theorem secJ_f {s : Nat} (hs : s < k.toNat) (h1 : sub (BitVec.ofNat 32 s) k) (h2 : ¬ sub (clo l (BitVec.ofNat 32 s)) pr) : secK l pr k = false := by
  have hk := k.isLt
  have hne : (BitVec.ofNat 32 s : AS) ≠ k := fun e => by
    have := congrArg BitVec.toNat e
    rw [BitVec.toNat_ofNat, Nat.mod_eq_of_lt (by omega)] at this
    omega
  generalize (BitVec.ofNat 32 s : AS) = x at *
  obtain ⟨a, ha, hka, hxa⟩ : ∃ a, a < 32 ∧ k.getLsbD a = true ∧ x.getLsbD a = false := by
    apply Classical.byContradiction
    intro hn
    apply hne
    refine sub_antisymm h1 (sub_bit.2 fun i hi hb => ?_)
    cases hx : x.getLsbD i with
    | true => rfl
    | false => exact absurd ⟨i, hi, hb, hx⟩ hn
  refine secK_f ha hka fun hc => h2 (sub_trans (clo_mono (sub_bit.2 fun i hi hb => ?_)) hc)
  unfold noA
  have h6 : ((1 : AS) <<< a).getLsbD i = decide (i = a) := bit_one a i hi
  rw [BitVec.getLsbD_and, BitVec.getLsbD_not, decide_eq_true hi, Bool.true_and, sub_bit.1 h1 i hi hb, h6]
  by_cases e : i = a
  · subst e; rw [hb] at hxa; cases hxa
  · rw [decide_eq_false e]; rfl
end
section
variable {n : Int} {l : List Fd}
theorem secS_f {i : Nat} (hi : i < (keysL n l).length) (h : secK l (orL (keysL n l)) ((keysL n l).getD i default) = false) : secS n l = false := by
  unfold secS
  rw [List.all_eq_false]
  refine ⟨_, getD_mem hi, by rw [h]; decide⟩
theorem secS_t (h : ∀ j, j < (keysL n l).length → secK l (orL (keysL n l)) ((keysL n l).getD j default) = true) : secS n l = true := by
  unfold secS
  rw [List.all_eq_true]
  intro x hx
  obtain ⟨j, hj, rfl⟩ := List.getElem_of_mem hx
  have := h j hj
  rwa [List.getD_eq_getElem?_getD, List.getElem?_eq_getElem hj] at this
theorem secR_1 (h : ¬ vErr n l = 0) : secR n l = false := by unfold secR; rw [decide_eq_false h]; rfl
theorem secR_2 (h : vErr n l = 0) {b : Bool} (hb : secS n l = b) : secR n l = b := by unfold secR; rw [decide_eq_true h, hb]; rfl
theorem all_succT {q : Nat → Bool} {i : Nat} (h : ∀ j, j < i → q j = true) (h2 : q i = true) : ∀ j, j < i + 1 → q j = true := fun j hj => by
  by_cases e : j = i
  · subst e; exact h2
  · exact h j (by omega)
end
end Go.Hx
end
section
namespace Go.Hx
open Go.Proofs
set_option maxRecDepth 100000
theorem good17 : goodFn Tryd.prog 17 := ⟨Tryd.f17, Tryd.func17, by kernel_rfl, by kernel_rfl⟩
theorem cTSecond (n : Int) (l : List Fd) : HPure Tryd.prog 17 [pI n, pP (fdl l)] (prOf [pB (secR n l), pI (vErr n l)]) := by
  refine hpure_of (nt := 58) Trydok Tryd.func17 rfl rfl (Nat.le_of_ble_eq_true rfl) ?_; refine hw_seq ?_; refine hw_region (E := TrydE) Trydok ?_; (iterate 2 refine rq rfl rfl rfl rfl rfl ?_); refine rg_nil ?_; show HW _ _ _ _ _
  refine hw_seq ?_; refine hw_region (E := TrydE) Trydok ?_; (iterate 2 refine rq rfl rfl rfl rfl rfl ?_); refine rc rfl rfl rfl rfl rfl rfl good45 (cKAll n l) (CoL.refl _) rfl rfl ?_; (iterate 5 refine rq rfl rfl rfl rfl rfl ?_)
  refine rg_nil ?_; show HW _ _ _ _ _; (iterate 2 refine hw_seq ?_); refine hw_region (E := TrydE) Trydok ?_; (iterate 2 refine rq rfl rfl rfl rfl rfl ?_); refine rg_nil ?_; show HW _ _ _ _ _
  refine hw_cond _ rfl (fun r0 => ?_) (fun r0 => ?_)
  · skip
    have h0 := r0
    have h0 := of_decide_eq_false (not_t h0)
    try simp only [Int.toNat_natCast] at h0
    refine hw_seq ?_; refine hw_region (E := TrydE) Trydok ?_; (iterate 3 refine rq rfl rfl rfl rfl rfl ?_); refine rg_nil ?_; show HW _ _ _ _ _; refine hw_ret ?_; refine ⟨.inr rfl, ?_⟩
    exact ⟨_, _, _, _, rfl, (by (repeat' apply And.intro) <;> first | trivial | exact Nat.le_of_ble_eq_true rfl | rfl), rfl, (by (repeat' apply And.intro) <;> first | trivial | exact Nat.le_of_ble_eq_true rfl | rfl), ⟨ccb (secR_1 h0).symm, CoC.refl _, trivial⟩⟩
  · skip
    have h0 := r0
    have h0 := of_decide_eq_true (not_f h0)
    try simp only [Int.toNat_natCast] at h0
    refine hw_skip ?_; show HW _ _ _ _ _; refine hw_seq ?_
    have hkl := keysL_len n l
    refine hw_region (E := TrydE) Trydok ?_; refine rq rfl rfl rfl rfl rfl ?_; refine rg_nil ?_; show HW _ _ _ _ _; (iterate 2 refine hw_seq ?_); refine hw_region (E := TrydE) Trydok ?_; (iterate 3 refine rq rfl rfl rfl rfl rfl ?_)
    refine rg_nil ?_; show HW _ _ _ _ _; refine hw_block ?_
    refine hw_loopK (ι := Nat) ⟨[(1, some _), (6, some _), (23, some _), (24, some _)], []⟩ ⟨⟨⟨_, rfl, CoR.refl _⟩, ⟨_, rfl, CoR.refl _⟩, ⟨_, rfl, CoR.refl _⟩, ⟨_, rfl, CoR.refl _⟩, trivial⟩, trivial⟩ (fun i => ⟨[(8, some (vA (orL ((keysL n l).take i)))), (25, some (vI i))], []⟩) (fun i => i ≤ (keysL n l).length) (fun i => (keysL n l).length - i) (0) (Nat.zero_le _) ⟨⟨⟨_, rfl, (by first | exact CoR.refl _ | exact coi (by omega) | exact cob (by simp_all))⟩, ⟨_, rfl, (by first | exact CoR.refl _ | exact coi (by omega) | exact cob (by simp_all))⟩, trivial⟩, trivial⟩ ?_
    rintro i hi
    refine hw_seq ?_; refine hw_region (E := TrydE) Trydok ?_; refine rq rfl rfl rfl rfl rfl ?_; refine rg_nil ?_; show HW _ _ _ _ _; refine hw_seq ?_; refine hw_cond _ rfl (fun r1 => ?_) (fun r1 => ?_)
    · skip
      have h1 := r1
      have h1 := of_decide_eq_true h1
      try simp only [Int.toNat_natCast] at h1
      refine hw_skip ?_; show HW _ _ _ _ _; refine hw_seq ?_; refine hw_block ?_; refine hw_seq ?_; refine hw_region (E := TrydE) Trydok ?_; (iterate 3 refine rq rfl rfl rfl rfl rfl ?_); refine rg_nil ?_; show HW _ _ _ _ _
      refine hw_region (E := TrydE) Trydok ?_; (iterate 4 refine rq rfl rfl rfl rfl rfl ?_); refine rg_nil ?_; show HW _ _ _ _ _; refine hw_region (E := TrydE) Trydok ?_; (iterate 2 refine rq rfl rfl rfl rfl rfl ?_)
      refine rg_nil ?_; refine ⟨i + 1, ?_, ?_, ?_⟩
      · show i + 1 ≤ _; omega
      · first | omega | (dsimp only; omega)
      · exact ⟨⟨⟨_, rfl, (cor_i (by rw [bOr, orL_take (by omega)]; rfl))⟩, ⟨_, rfl, (by first | exact CoR.refl _ | exact coi (by omega) | exact cob (by simp_all))⟩, ⟨_, rfl, CoR.refl _⟩, ⟨_, rfl, CoR.refl _⟩, ⟨_, rfl, CoR.refl _⟩, ⟨_, rfl, CoR.refl _⟩, trivial⟩, trivial⟩
    · skip
      have h1 := r1
      have h1 := of_decide_eq_false h1
      try simp only [Int.toNat_natCast] at h1
      obtain rfl : i = (keysL n l).length := by omega
      have htk : (keysL n l).take (keysL n l).length = keysL n l := List.take_length
      refine hw_exit ?_; show HW _ _ _ _ _; (iterate 2 refine hw_seq ?_); refine hw_region (E := TrydE) Trydok ?_; (iterate 3 refine rq rfl rfl rfl rfl rfl ?_); refine rg_nil ?_; show HW _ _ _ _ _; refine hw_block ?_
      refine hw_loopK (ι := Nat) ⟨[(1, some _), (33, some _), (34, some _)], []⟩ ⟨⟨⟨_, rfl, CoR.refl _⟩, ⟨_, rfl, CoR.refl _⟩, ⟨_, rfl, CoR.refl _⟩, trivial⟩, trivial⟩ (fun i => ⟨[(8, some (vA (orL (keysL n l)))), (35, some (vI i))], []⟩) (fun i => i ≤ (keysL n l).length ∧ (∀ j, j < i → secK l (orL (keysL n l)) ((keysL n l).getD j default) = true)) (fun i => (keysL n l).length - i) (0) (⟨Nat.zero_le _, fun j hj => absurd hj (Nat.not_lt_zero _)⟩) ⟨⟨⟨_, rfl, (cor_i (by rw [htk]))⟩, ⟨_, rfl, (by first | exact CoR.refl _ | exact coi (by omega) | exact cob (by simp_all))⟩, trivial⟩, trivial⟩ ?_
      rintro i ⟨hi, hI⟩
      refine hw_seq ?_; refine hw_region (E := TrydE) Trydok ?_; refine rq rfl rfl rfl rfl rfl ?_; refine rg_nil ?_; show HW _ _ _ _ _; refine hw_seq ?_; refine hw_cond _ rfl (fun r2 => ?_) (fun r2 => ?_)
      · skip
        have h2 := r2
        have h2 := of_decide_eq_true h2
        try simp only [Int.toNat_natCast] at h2
        refine hw_skip ?_; show HW _ _ _ _ _; refine hw_seq ?_; refine hw_block ?_; refine hw_seq ?_; refine hw_region (E := TrydE) Trydok ?_; (iterate 3 refine rq rfl rfl rfl rfl rfl ?_); refine rg_nil ?_; show HW _ _ _ _ _
        refine hw_seq ?_; refine hw_region (E := TrydE) Trydok ?_; (iterate 2 refine rq rfl rfl rfl rfl rfl ?_); refine rg_nil ?_; show HW _ _ _ _ _; refine hw_block ?_
        refine hw_loopK (ι := AS) ⟨[(1, some _), (8, some _), (12, some _), (33, some _), (34, some _), (35, some _)], []⟩ ⟨⟨⟨_, rfl, CoR.refl _⟩, ⟨_, rfl, CoR.refl _⟩, ⟨_, rfl, CoR.refl _⟩, ⟨_, rfl, CoR.refl _⟩, ⟨_, rfl, CoR.refl _⟩, ⟨_, rfl, CoR.refl _⟩, trivial⟩, trivial⟩ (fun r => ⟨[(13, some (vA r))], []⟩) (fun r => SecI l (orL (keysL n l)) ((keysL n l).getD i default) r) (fun r => r.toNat) (((keysL n l).getD i default)) (sec_zero l (orL (keysL n l)) ((keysL n l).getD i default)) ⟨⟨⟨_, rfl, (by first | exact CoR.refl _ | exact coi (by omega) | exact cob (by simp_all))⟩, trivial⟩, trivial⟩ ?_
        rintro r hr
        (iterate 2 refine hw_seq ?_); refine hw_region (E := TrydE) Trydok ?_; (iterate 2 refine rq rfl rfl rfl rfl rfl ?_); refine rg_nil ?_; show HW _ _ _ _ _; refine hw_cond _ rfl (fun r3 => ?_) (fun r3 => ?_)
        · skip
          have h3 := r3
          have h3 := of_decide_eq_false (not_t h3)
          try simp only [Int.toNat_natCast] at h3
          have hne : r ≠ 0 := fun e => h3 (by rw [e]; rfl)
          have hlow := sec_low hr hne
          refine hw_skip ?_; show HW _ _ _ _ _; refine hw_seq ?_; refine hw_block ?_; refine hw_seq ?_; refine hw_region (E := TrydE) Trydok ?_; (iterate 4 refine rq rfl rfl rfl rfl rfl ?_); refine rqw rfl rfl rfl rfl rfl ?_
          (iterate 2 refine rq rfl rfl rfl rfl rfl ?_); refine rc rfl rfl rfl rfl rfl rfl good46 (cClose l (noA ((keysL n l).getD i default) (lowB r))) (⟨CoC.refl _, cci (by rw [neg_v r hne rfl, bNot]; rfl), trivial⟩) rfl rfl ?_
          (iterate 3 refine rq rfl rfl rfl rfl rfl ?_); refine rg_nil ?_; show HW _ _ _ _ _; refine hw_cond _ rfl (fun r4 => ?_) (fun r4 => ?_)
          · skip
            have h4 := r4
            have h4 := of_decide_eq_false (not_t h4)
            try simp only [Int.toNat_natCast] at h4
            refine hw_seq ?_; refine hw_region (E := TrydE) Trydok ?_; (iterate 2 refine rq rfl rfl rfl rfl rfl ?_); refine rg_nil ?_; show HW _ _ _ _ _; refine hw_ret ?_; refine ⟨.inr rfl, ?_⟩
            exact ⟨_, _, _, _, rfl, (by (repeat' apply And.intro) <;> first | trivial | exact Nat.le_of_ble_eq_true rfl | rfl), rfl, (by (repeat' apply And.intro) <;> first | trivial | exact Nat.le_of_ble_eq_true rfl | rfl), ⟨ccb (secR_2 h0 (secS_f (by omega) (secK_f hlow.1 hlow.2 (fun e => (by assumption : ¬ _) (sub_iff_not.2 e))))).symm, cci h0.symm, trivial⟩⟩
          · skip
            have h4 := r4
            have h4 := of_decide_eq_true (not_f h4)
            try simp only [Int.toNat_natCast] at h4
            refine hw_skip ?_; show HW _ _ _ _ _; refine hw_region (E := TrydE) Trydok ?_; (iterate 2 refine rq rfl rfl rfl rfl rfl ?_); refine rq rfl rfl rfl rfl rfl ?_ (hp := (pred_pre hne))
            (iterate 2 refine rq rfl rfl rfl rfl rfl ?_); refine rg_nil ?_; refine ⟨r &&& (r - 1), ?_, ?_, ?_⟩
            · exact sec_next hr hne (sub_iff_not.1 (by assumption))
            · exact min_lt hne
            · exact ⟨⟨⟨_, rfl, (cor_i (and_pred hne))⟩, ⟨_, rfl, CoR.refl _⟩, ⟨_, rfl, CoR.refl _⟩, ⟨_, rfl, CoR.refl _⟩, ⟨_, rfl, CoR.refl _⟩, ⟨_, rfl, CoR.refl _⟩, ⟨_, rfl, CoR.refl _⟩, trivial⟩, trivial⟩
        · skip
          have h3 := r3
          have h3 := of_decide_eq_true (not_f h3)
          try simp only [Int.toNat_natCast] at h3
          have hz : r = 0 := asI_inj.1 h3
          refine hw_exit ?_; show HW _ _ _ _ _; refine hw_region (E := TrydE) Trydok ?_; (iterate 2 refine rq rfl rfl rfl rfl rfl ?_); refine rg_nil ?_; refine ⟨i + 1, ?_, ?_, ?_⟩
          · exact ⟨by show i + 1 ≤ _; omega, all_succT hI (sec_end hr hz)⟩
          · first | omega | (dsimp only; omega)
          · exact ⟨⟨⟨_, rfl, (by first | exact CoR.refl _ | exact coi (by omega) | exact cob (by simp_all))⟩, ⟨_, rfl, (by first | exact CoR.refl _ | exact coi (by omega) | exact cob (by simp_all))⟩, ⟨_, rfl, CoR.refl _⟩, ⟨_, rfl, CoR.refl _⟩, ⟨_, rfl, CoR.refl _⟩, trivial⟩, trivial⟩
      · skip
        have h2 := r2
        have h2 := of_decide_eq_false h2
        try simp only [Int.toNat_natCast] at h2
        obtain rfl : i = (keysL n l).length := by omega
        refine hw_exit ?_; show HW _ _ _ _ _; refine hw_seq ?_; refine hw_region (E := TrydE) Trydok ?_; (iterate 2 refine rq rfl rfl rfl rfl rfl ?_); refine rg_nil ?_; show HW _ _ _ _ _; refine hw_ret ?_; refine ⟨.inr rfl, ?_⟩
        exact ⟨_, _, _, _, rfl, (by (repeat' apply And.intro) <;> first | trivial | exact Nat.le_of_ble_eq_true rfl | rfl), rfl, (by (repeat' apply And.intro) <;> first | trivial | exact Nat.le_of_ble_eq_true rfl | rfl), ⟨ccb (secR_2 h0 (secS_t (fun j hj => hI j (by omega)))).symm, cci h0.symm, trivial⟩⟩
theorem good18 : goodFn Tryd.prog 18 := ⟨Tryd.f18, Tryd.func18, by kernel_rfl, by kernel_rfl⟩
theorem cR23Second (n : Int) (l : List Fd) : HPure Tryd.prog 18 [pI n, pP (fdl l)] (prOf [pB (secR n l), pI (vErr n l)]) := by
  refine hpure_of (nt := 56) Trydok Tryd.func18 rfl rfl (Nat.le_of_ble_eq_true rfl) ?_; refine hw_seq ?_; refine hw_region (E := TrydE) Trydok ?_; (iterate 2 refine rq rfl rfl rfl rfl rfl ?_); refine rg_nil ?_; show HW _ _ _ _ _
  refine hw_seq ?_; refine hw_region (E := TrydE) Trydok ?_; (iterate 2 refine rq rfl rfl rfl rfl rfl ?_); refine rc rfl rfl rfl rfl rfl rfl good47 (cRAll n l) (CoL.refl _) rfl rfl ?_; (iterate 5 refine rq rfl rfl rfl rfl rfl ?_)
  refine rg_nil ?_; show HW _ _ _ _ _; (iterate 2 refine hw_seq ?_); refine hw_region (E := TrydE) Trydok ?_; (iterate 2 refine rq rfl rfl rfl rfl rfl ?_); refine rg_nil ?_; show HW _ _ _ _ _
  refine hw_cond _ rfl (fun r0 => ?_) (fun r0 => ?_)
  · skip
    have h0 := r0
    have h0 := of_decide_eq_false (not_t h0)
    try simp only [Int.toNat_natCast] at h0
    refine hw_seq ?_; refine hw_region (E := TrydE) Trydok ?_; (iterate 3 refine rq rfl rfl rfl rfl rfl ?_); refine rg_nil ?_; show HW _ _ _ _ _; refine hw_ret ?_; refine ⟨.inr rfl, ?_⟩
    exact ⟨_, _, _, _, rfl, (by (repeat' apply And.intro) <;> first | trivial | exact Nat.le_of_ble_eq_true rfl | rfl), rfl, (by (repeat' apply And.intro) <;> first | trivial | exact Nat.le_of_ble_eq_true rfl | rfl), ⟨ccb (secR_1 h0).symm, CoC.refl _, trivial⟩⟩
  · skip
    have h0 := r0
    have h0 := of_decide_eq_true (not_f h0)
    try simp only [Int.toNat_natCast] at h0
    refine hw_skip ?_; show HW _ _ _ _ _; refine hw_seq ?_; refine hw_region (E := TrydE) Trydok ?_; (iterate 2 refine rq rfl rfl rfl rfl rfl ?_); refine rc rfl rfl rfl rfl rfl rfl good48 (cRPrime n l) (CoL.refl _) rfl rfl ?_
    (iterate 5 refine rq rfl rfl rfl rfl rfl ?_); refine rg_nil ?_; show HW _ _ _ _ _; (iterate 2 refine hw_seq ?_)
    have hkl := keysL_len n l
    refine hw_region (E := TrydE) Trydok ?_; refine rq rfl rfl rfl rfl rfl ?_; refine rg_nil ?_; show HW _ _ _ _ _; refine hw_block ?_
    refine hw_loopK (ι := Nat) ⟨[(1, some _), (6, some _), (8, some _)], []⟩ ⟨⟨⟨_, rfl, CoR.refl _⟩, ⟨_, rfl, CoR.refl _⟩, ⟨_, rfl, CoR.refl _⟩, trivial⟩, trivial⟩ (fun i => ⟨[(10, some (vI i))], []⟩) (fun i => i ≤ (keysL n l).length ∧ (∀ j, j < i → secK l (orL (keysL n l)) ((keysL n l).getD j default) = true)) (fun i => (keysL n l).length - i) (0) (⟨Nat.zero_le _, fun j hj => absurd hj (Nat.not_lt_zero _)⟩) ⟨⟨⟨_, rfl, (by first | exact CoR.refl _ | exact coi (by omega) | exact cob (by simp_all))⟩, trivial⟩, trivial⟩ ?_
    rintro i ⟨hi, hI⟩
    (iterate 2 refine hw_seq ?_); refine hw_region (E := TrydE) Trydok ?_; (iterate 4 refine rq rfl rfl rfl rfl rfl ?_); refine rg_nil ?_; show HW _ _ _ _ _; refine hw_cond _ rfl (fun r1 => ?_) (fun r1 => ?_)
    · skip
      have h1 := r1
      have h1 := of_decide_eq_true h1
      try simp only [Int.toNat_natCast] at h1
      refine hw_skip ?_; show HW _ _ _ _ _; refine hw_seq ?_; refine hw_block ?_; refine hw_seq ?_; refine hw_region (E := TrydE) Trydok ?_; refine rq rfl rfl rfl rfl rfl ?_; refine rg_nil ?_; show HW _ _ _ _ _; refine hw_block ?_
      refine hw_loopK (ι := Nat) ⟨[(1, some _), (6, some _), (8, some _), (10, some _)], []⟩ ⟨⟨⟨_, rfl, CoR.refl _⟩, ⟨_, rfl, CoR.refl _⟩, ⟨_, rfl, CoR.refl _⟩, ⟨_, rfl, CoR.refl _⟩, trivial⟩, trivial⟩ (fun s => ⟨[(11, some (.v (.one (.p (.raw (.int .u32 (s : Int)))))))], []⟩) (fun s => s ≤ 4294967295 ∧ SecJ l (orL (keysL n l)) ((keysL n l).getD i default) s) (fun s => 4294967295 - s) (0) (⟨Nat.zero_le _, secJ_zero l (orL (keysL n l)) ((keysL n l).getD i default)⟩) ⟨⟨⟨_, rfl, (by first | exact CoR.refl _ | exact coi (by omega) | exact cob (by simp_all))⟩, trivial⟩, trivial⟩ ?_
      rintro s ⟨hs0, hs⟩
      (iterate 2 refine hw_seq ?_); refine hw_region (E := TrydE) Trydok ?_; (iterate 6 refine rq rfl rfl rfl rfl rfl ?_); refine rg_nil ?_; show HW _ _ _ _ _; refine hw_cond _ rfl (fun r2 => ?_) (fun r2 => ?_)
      · skip
        have h2 := r2
        have h2 := of_decide_eq_true h2
        try simp only [Int.toNat_natCast] at h2
        have hsk : s < ((keysL n l).getD i default).toNat := by have hq : (s : Int) < (((keysL n l).getD i default).toNat : Int) := h2; omega
        have hkb := ((keysL n l).getD i default).isLt
        refine hw_skip ?_; show HW _ _ _ _ _; refine hw_seq ?_; refine hw_block ?_; refine hw_seq ?_; refine hw_region (E := TrydE) Trydok ?_; (iterate 8 refine rq rfl rfl rfl rfl rfl ?_)
        refine rsplit rfl rfl (fun r3 => ?_) (fun r3 => ?_)
        · skip
          have h3 := r3
          have h3 := of_decide_eq_true h3
          try simp only [Int.toNat_natCast] at h3
          (iterate 2 refine rq rfl rfl rfl rfl (gtt r3) ?_); refine rc rfl rfl rfl rfl rfl rfl good49 (cRClose l (BitVec.ofNat 32 s)) (⟨CoC.refl _, cci (set_u64 (by omega)), trivial⟩) rfl (gtt r3) ?_
          (iterate 3 refine rq rfl rfl rfl rfl (gtt r3) ?_); refine rq rfl rfl rfl rfl rfl ?_; refine rg_nil ?_; show HW _ _ _ _ _; refine hw_cond _ rfl (fun r4 => ?_) (fun r4 => ?_)
          · skip
            have h4 := r4
            have h4 := bif_t r3 h4
            have h4 := of_decide_eq_false (not_t h4)
            try simp only [Int.toNat_natCast] at h4
            refine hw_seq ?_; refine hw_region (E := TrydE) Trydok ?_; (iterate 2 refine rq rfl rfl rfl rfl rfl ?_); refine rg_nil ?_; show HW _ _ _ _ _; refine hw_ret ?_; refine ⟨.inr rfl, ?_⟩
            exact ⟨_, _, _, _, rfl, (by (repeat' apply And.intro) <;> first | trivial | exact Nat.le_of_ble_eq_true rfl | rfl), rfl, (by (repeat' apply And.intro) <;> first | trivial | exact Nat.le_of_ble_eq_true rfl | rfl), ⟨ccb (secR_2 h0 (secS_f (i := i) (by omega) (secJ_f (s := s) hsk ((num_sub (by omega)).1 h3) (fun e => h4 (sub_iff_not.2 e))))).symm, cci h0.symm, trivial⟩⟩
          · skip
            have h4 := r4
            have h4 := bif_t r3 h4
            have h4 := of_decide_eq_true (not_f h4)
            try simp only [Int.toNat_natCast] at h4
            refine hw_skip ?_; show HW _ _ _ _ _; refine hw_region (E := TrydE) Trydok ?_; (iterate 3 refine rq rfl rfl rfl rfl rfl ?_); refine rg_nil ?_; refine ⟨s + 1, ?_, ?_, ?_⟩
            · refine ⟨by show s + 1 ≤ _; omega, secJ_next hs (by first | exact .inl (fun e => (by assumption : ¬ _) ((num_sub (by omega)).2 e)) | exact .inr (sub_iff_not.1 (by assumption)))⟩
            · first | omega | (dsimp only; omega)
            · exact ⟨⟨⟨_, rfl, (by first | exact CoR.refl _ | exact coi (by omega) | exact cob (by simp_all))⟩, ⟨_, rfl, CoR.refl _⟩, ⟨_, rfl, CoR.refl _⟩, ⟨_, rfl, CoR.refl _⟩, ⟨_, rfl, CoR.refl _⟩, trivial⟩, trivial⟩
        · skip
          have h3 := r3
          have h3 := of_decide_eq_false h3
          try simp only [Int.toNat_natCast] at h3
          (iterate 6 refine rk rfl rfl rfl (gft r3) ?_); refine rq rfl rfl rfl rfl rfl ?_ (hp := r3); refine rg_nil ?_; show HW _ _ _ _ _; refine hw_cond _ rfl (fun e => by cases e) (fun _ => ?_); refine hw_skip ?_
          show HW _ _ _ _ _; refine hw_region (E := TrydE) Trydok ?_; (iterate 3 refine rq rfl rfl rfl rfl rfl ?_); refine rg_nil ?_; refine ⟨s + 1, ?_, ?_, ?_⟩
          · refine ⟨by show s + 1 ≤ _; omega, secJ_next hs (by first | exact .inl (fun e => (by assumption : ¬ _) ((num_sub (by omega)).2 e)) | exact .inr (sub_iff_not.1 (by assumption)))⟩
          · first | omega | (dsimp only; omega)
          · exact ⟨⟨⟨_, rfl, (by first | exact CoR.refl _ | exact coi (by omega) | exact cob (by simp_all))⟩, ⟨_, rfl, CoR.refl _⟩, ⟨_, rfl, CoR.refl _⟩, ⟨_, rfl, CoR.refl _⟩, ⟨_, rfl, CoR.refl _⟩, trivial⟩, trivial⟩
      · skip
        have h2 := r2
        have h2 := of_decide_eq_false h2
        try simp only [Int.toNat_natCast] at h2
        have hsk : ((keysL n l).getD i default).toNat ≤ s := by have hq : ¬ (s : Int) < (((keysL n l).getD i default).toNat : Int) := h2; omega
        refine hw_exit ?_; show HW _ _ _ _ _; refine hw_region (E := TrydE) Trydok ?_; (iterate 3 refine rq rfl rfl rfl rfl rfl ?_); refine rg_nil ?_; refine ⟨i + 1, ?_, ?_, ?_⟩
        · exact ⟨by show i + 1 ≤ _; omega, all_succT hI (secJ_end hs hsk)⟩
        · first | omega | (dsimp only; omega)
        · exact ⟨⟨⟨_, rfl, (by first | exact CoR.refl _ | exact coi (by omega) | exact cob (by simp_all))⟩, ⟨_, rfl, CoR.refl _⟩, ⟨_, rfl, CoR.refl _⟩, ⟨_, rfl, CoR.refl _⟩, trivial⟩, trivial⟩
    · skip
      have h1 := r1
      have h1 := of_decide_eq_false h1
      try simp only [Int.toNat_natCast] at h1
      obtain rfl : i = (keysL n l).length := by omega
      refine hw_exit ?_; show HW _ _ _ _ _; refine hw_seq ?_; refine hw_region (E := TrydE) Trydok ?_; (iterate 2 refine rq rfl rfl rfl rfl rfl ?_); refine rg_nil ?_; show HW _ _ _ _ _; refine hw_ret ?_; refine ⟨.inr rfl, ?_⟩
      exact ⟨_, _, _, _, rfl, (by (repeat' apply And.intro) <;> first | trivial | exact Nat.le_of_ble_eq_true rfl | rfl), rfl, (by (repeat' apply And.intro) <;> first | trivial | exact Nat.le_of_ble_eq_true rfl | rfl), ⟨ccb (secR_2 h0 (secS_t (fun j hj => hI j (by omega)))).symm, cci h0.symm, trivial⟩⟩
end Go.Hx
end
