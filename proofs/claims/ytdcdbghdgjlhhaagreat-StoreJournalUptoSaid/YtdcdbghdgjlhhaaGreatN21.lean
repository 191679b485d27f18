/- A part of the proof: lemmas for the theorem of this claim, merged by a program of ours out of W10. -/
import Derived.Test.YtdcdbghdgjlhhaaGreatN20
set_option linter.all false
section
namespace Go.Hx
open Go.Proofs
set_option maxRecDepth 100000
theorem good46 : goodFn Tryz.prog 46 := ⟨Tryz.f46, Tryz.func46, by kernel_rfl, by kernel_rfl⟩
theorem c46 (d : DB) (c : Chg) (hd : dbV d) (hc : c.ok) : HPure Tryz.prog 46 [dbpc d, c.pc] (prOf [dbpc (appD d c), pI (appErr d c)]) := by
  refine hpure_of (nt := 145) Tryzok Tryz.func46 rfl rfl (Nat.le_of_ble_eq_true rfl) ?_
  have hdl := hd.1
  refine hw_seq ?_; refine hw_region (E := TryzE) Tryzok ?_; refine rm 0 rfl rfl rfl rfl rfl rfl ?_; refine rm 1 rfl rfl rfl rfl rfl rfl ?_; refine rm 2 rfl rfl rfl rfl rfl rfl ?_; refine rq rfl rfl rfl rfl rfl ?_; refine rg_nil ?_
  show HW _ _ _ _ _; (iterate 2 refine hw_seq ?_); refine hw_region (E := TryzE) Tryzok ?_; (iterate 3 refine rq rfl rfl rfl rfl rfl ?_); refine rg_nil ?_; show HW _ _ _ _ _; refine hw_cond _ rfl (fun r0 => ?_) (fun r0 => ?_)
  · skip
    have h0 := r0
    have h0 := of_decide_eq_true h0
    try simp only [Int.toNat_natCast] at h0
    (iterate 2 refine hw_seq ?_); refine hw_region (E := TryzE) Tryzok ?_; (iterate 6 refine rq rfl rfl rfl rfl rfl ?_); refine rg_nil ?_; show HW _ _ _ _ _; refine hw_cond _ rfl (fun r1 => ?_) (fun r1 => ?_)
    · skip
      have h1 := r1
      have h1 := of_decide_eq_false (not_t h1)
      try simp only [Int.toNat_natCast] at h1
      refine hw_seq ?_; refine hw_region (E := TryzE) Tryzok ?_; refine rq rfl rfl rfl rfl rfl ?_; refine rs rfl rfl rfl rfl rfl ?_; refine rq rfl rfl rfl rfl rfl ?_; refine rg_nil ?_; show HW _ _ _ _ _; refine hw_ret ?_
      refine ⟨.inr rfl, ?_⟩
      have he : appErr d c = 1 := aE1 (by assumption) (by assumption)
      rw [aD_err he (by first | assumption | omega | decide)]
      exact ⟨_, _, _, _, rfl, (by (repeat' apply And.intro) <;> first | trivial | exact Nat.le_of_ble_eq_true rfl | rfl), rfl, (by (repeat' apply And.intro) <;> first | trivial | exact Nat.le_of_ble_eq_true rfl | rfl), ⟨CoC.refl _, cci he.symm, trivial⟩⟩
    · skip
      have h1 := r1
      have h1 := of_decide_eq_true (not_f h1)
      try simp only [Int.toNat_natCast] at h1
      refine hw_skip ?_; show HW _ _ _ _ _; (iterate 2 refine hw_seq ?_); refine hw_region (E := TryzE) Tryzok ?_; (iterate 3 refine rq rfl rfl rfl rfl rfl ?_)
      refine rc rfl rfl rfl rfl rfl rfl good59 (c59 _ _) (CoL.refl _) rfl rfl ?_; refine rq rfl rfl rfl rfl rfl ?_; refine rg_nil ?_; show HW _ _ _ _ _; refine hw_seq ?_; refine hw_region (E := TryzE) Tryzok ?_
      (iterate 2 refine rq rfl rfl rfl rfl rfl ?_); refine rg_nil ?_; show HW _ _ _ _ _; refine hw_cond _ rfl (fun r2 => ?_) (fun r2 => ?_)
      · skip
        have h2 := r2
        have h2 := of_decide_eq_false (not_t h2)
        try simp only [Int.toNat_natCast] at h2
        refine hw_seq ?_; refine hw_region (E := TryzE) Tryzok ?_; (iterate 2 refine rq rfl rfl rfl rfl rfl ?_); refine rs rfl rfl rfl rfl rfl ?_; refine rq rfl rfl rfl rfl rfl ?_; refine rg_nil ?_; show HW _ _ _ _ _
        refine hw_ret ?_; refine ⟨.inr rfl, ?_⟩
        have he : appErr d c = crErr d c.table := aE2 (by assumption) (by assumption)
        rw [aD_err he (by first | assumption | omega | decide)]
        exact ⟨_, _, _, _, rfl, (by (repeat' apply And.intro) <;> first | trivial | exact Nat.le_of_ble_eq_true rfl | rfl), rfl, (by (repeat' apply And.intro) <;> first | trivial | exact Nat.le_of_ble_eq_true rfl | rfl), ⟨CoC.refl _, cci he.symm, trivial⟩⟩
      · skip
        have h2 := r2
        have h2 := of_decide_eq_true (not_f h2)
        try simp only [Int.toNat_natCast] at h2
        refine hw_skip ?_; show HW _ _ _ _ _; refine hw_seq ?_; refine hw_draw (E := TryzE) Tryzok Tryzmixed [0, 1, 2, 3, 4, 5, 6, 7, 8, 9, 10] ?_; refine rm 3 rfl rfl rfl rfl rfl rfl ?_; (iterate 2 refine rq rfl rfl rfl rfl rfl ?_)
        refine ra 4 true rfl rfl rfl rfl rfl rfl ?_; (iterate 2 refine rq rfl rfl rfl rfl rfl ?_); refine rm 5 rfl rfl rfl rfl rfl rfl ?_; refine ra 6 true rfl rfl rfl rfl rfl rfl ?_; refine rq rfl rfl rfl rfl rfl ?_
        refine rs rfl rfl rfl rfl rfl ?_; refine rq rfl rfl rfl rfl rfl ?_; refine rg_nil ?_; refine ⟨by kernel_rfl, ?_⟩; show HW _ _ _ _ _; refine hw_ret ?_; refine ⟨.inr rfl, ?_⟩
        have he : appErr d c = 0 := (aE2 (by assumption) (by assumption)).trans (by assumption)
        rw [aD1 he (by assumption)]
        exact ⟨_, _, _, _, rfl, (by (repeat' apply And.intro) <;> first | trivial | exact Nat.le_of_ble_eq_true rfl | rfl), rfl, (by (repeat' apply And.intro) <;> first | trivial | exact Nat.le_of_ble_eq_true rfl | rfl), ⟨CoC.agg ⟨co_appP (Nat.zero_add _) rfl (fun i j hi hj => CoP.of_eq (by simp [appF])) (lt1b (lt3 (CoP.refl _) (CoP.refl _) (CoP.refl _))), trivial⟩, cci he.symm, trivial⟩⟩
  · skip
    have h0 := r0
    have h0 := of_decide_eq_false h0
    try simp only [Int.toNat_natCast] at h0
    refine hw_skip ?_; show HW _ _ _ _ _; (iterate 2 refine hw_seq ?_); refine hw_region (E := TryzE) Tryzok ?_; (iterate 4 refine rq rfl rfl rfl rfl rfl ?_); refine rsplit rfl rfl (fun r3 => ?_) (fun r3 => ?_)
    · skip
      have h3 := r3
      have h3 := of_decide_eq_false (not_t h3)
      try simp only [Int.toNat_natCast] at h3
      (iterate 3 refine rq rfl rfl rfl rfl (gtt r3) ?_); (iterate 2 refine rq rfl rfl rfl rfl rfl ?_); refine rsplit rfl rfl (fun r4 => ?_) (fun r4 => ?_)
      · skip
        have h4 := r4
        have h4 := bif_t r3 h4
        have h4 := of_decide_eq_false (not_t h4)
        try simp only [Int.toNat_natCast] at h4
        (iterate 3 refine rq rfl rfl rfl rfl (gtt r4) ?_); refine rq rfl rfl rfl rfl rfl ?_; refine rg_nil ?_; show HW _ _ _ _ _; refine hw_cond _ rfl (fun r5 => ?_) (fun r5 => ?_)
        · skip
          have h5 := r5
          have h5 := bif_t r4 h5
          have h5 := of_decide_eq_false (not_t h5)
          try simp only [Int.toNat_natCast] at h5
          refine hw_seq ?_; refine hw_region (E := TryzE) Tryzok ?_; refine rq rfl rfl rfl rfl rfl ?_; refine rs rfl rfl rfl rfl rfl ?_; refine rq rfl rfl rfl rfl rfl ?_; refine rg_nil ?_; show HW _ _ _ _ _; refine hw_ret ?_
          refine ⟨.inr rfl, ?_⟩
          have he : appErr d c = 1 := aE3 (by omega)
          rw [aD_err he (by first | assumption | omega | decide)]
          exact ⟨_, _, _, _, rfl, (by (repeat' apply And.intro) <;> first | trivial | exact Nat.le_of_ble_eq_true rfl | rfl), rfl, (by (repeat' apply And.intro) <;> first | trivial | exact Nat.le_of_ble_eq_true rfl | rfl), ⟨CoC.refl _, cci he.symm, trivial⟩⟩
        · skip
          have h5 := r5
          have h5 := bif_t r4 h5
          have h5 := of_decide_eq_true (not_f h5)
          try simp only [Int.toNat_natCast] at h5
          refine hw_skip ?_; show HW _ _ _ _ _; refine hw_seq ?_; refine hw_region (E := TryzE) Tryzok ?_; (iterate 3 refine rq rfl rfl rfl rfl rfl ?_); refine rc rfl rfl rfl rfl rfl rfl good60 (c60 _ _) (CoL.refl _) rfl rfl ?_
          refine rq rfl rfl rfl rfl rfl ?_; refine rg_nil ?_; show HW _ _ _ _ _; (iterate 2 refine hw_seq ?_); refine hw_region (E := TryzE) Tryzok ?_; (iterate 2 refine rq rfl rfl rfl rfl rfl ?_); refine rg_nil ?_
          show HW _ _ _ _ _; refine hw_cond _ rfl (fun r6 => ?_) (fun r6 => ?_)
          · skip
            have h6 := r6
            have h6 := of_decide_eq_true h6
            try simp only [Int.toNat_natCast] at h6
            refine hw_seq ?_; refine hw_region (E := TryzE) Tryzok ?_; refine rq rfl rfl rfl rfl rfl ?_; refine rs rfl rfl rfl rfl rfl ?_; refine rq rfl rfl rfl rfl rfl ?_; refine rg_nil ?_; show HW _ _ _ _ _; refine hw_ret ?_
            refine ⟨.inr rfl, ?_⟩
            have he : appErr d c = 4 := aE4 (by omega) (by assumption)
            rw [aD_err he (by first | assumption | omega | decide)]
            exact ⟨_, _, _, _, rfl, (by (repeat' apply And.intro) <;> first | trivial | exact Nat.le_of_ble_eq_true rfl | rfl), rfl, (by (repeat' apply And.intro) <;> first | trivial | exact Nat.le_of_ble_eq_true rfl | rfl), ⟨CoC.refl _, cci he.symm, trivial⟩⟩
          · skip
            have h6 := r6
            have h6 := of_decide_eq_false h6
            try simp only [Int.toNat_natCast] at h6
            have hix := h6
            have htb := tbl_at h6
            have hT : TOk (tblAt d c.name) := hd.at h6
            refine hw_skip ?_; show HW _ _ _ _ _; refine hw_seq ?_; refine hw_region (E := TryzE) Tryzok ?_; (iterate 5 refine rq rfl rfl rfl rfl rfl ?_); refine rm 7 rfl rfl rfl rfl rfl rfl ?_; refine rs rfl rfl rfl rfl rfl ?_
            refine rg_nil ?_; show HW _ _ _ _ _; (iterate 2 refine hw_seq ?_); refine hw_region (E := TryzE) Tryzok ?_; (iterate 3 refine rq rfl rfl rfl rfl rfl ?_); refine rg_nil ?_; show HW _ _ _ _ _
            refine hw_cond _ rfl (fun r7 => ?_) (fun r7 => ?_)
            · skip
              have h7 := r7
              have h7 := of_decide_eq_true h7
              try simp only [Int.toNat_natCast] at h7
              refine hw_seq ?_; refine hw_region (E := TryzE) Tryzok ?_; (iterate 3 refine rq rfl rfl rfl rfl rfl ?_); refine rc rfl rfl rfl rfl rfl rfl good61 (c61 _ _) (CoL.refl _) rfl rfl ?_
              (iterate 3 refine rq rfl rfl rfl rfl rfl ?_); refine rm 8 rfl rfl rfl rfl rfl rfl ?_; refine rs rfl rfl rfl rfl rfl ?_; refine rq rfl rfl rfl rfl rfl ?_; refine rg_nil ?_; show HW _ _ _ _ _
              (iterate 2 refine hw_seq ?_); refine hw_region (E := TryzE) Tryzok ?_; (iterate 2 refine rq rfl rfl rfl rfl rfl ?_); refine rg_nil ?_; show HW _ _ _ _ _; refine hw_cond _ rfl (fun r8 => ?_) (fun r8 => ?_)
              · skip
                have h8 := r8
                have h8 := of_decide_eq_false (not_t h8)
                try simp only [Int.toNat_natCast] at h8
                refine hw_seq ?_; refine hw_region (E := TryzE) Tryzok ?_; (iterate 2 refine rq rfl rfl rfl rfl rfl ?_); refine rs rfl rfl rfl rfl rfl ?_; refine rq rfl rfl rfl rfl rfl ?_; refine rg_nil ?_; show HW _ _ _ _ _
                refine hw_ret ?_; refine ⟨.inr rfl, ?_⟩
                have he : appErr d c = insErr (tblAt d c.name) c.row := (aE5 (by omega) hix).trans (cE2 (by assumption))
                rw [aD_err he (by first | assumption | omega | decide)]
                exact ⟨_, _, _, _, rfl, (by (repeat' apply And.intro) <;> first | trivial | exact Nat.le_of_ble_eq_true rfl | rfl), rfl, (by (repeat' apply And.intro) <;> first | trivial | exact Nat.le_of_ble_eq_true rfl | rfl), ⟨CoC.refl _, cci he.symm, trivial⟩⟩
              · skip
                have h8 := r8
                have h8 := of_decide_eq_true (not_f h8)
                try simp only [Int.toNat_natCast] at h8
                refine hw_skip ?_; show HW _ _ _ _ _; refine hw_seq ?_; refine hw_region (E := TryzE) Tryzok ?_; (iterate 3 refine rq rfl rfl rfl rfl rfl ?_)
                refine rc rfl rfl rfl rfl rfl rfl good73 (c73 d (tblIx d c.name).toNat (insT (tblAt d c.name) c.row) (by have := hd.1; omega)) (⟨CoC.refl _, cci (by omega), CoC.refl _, trivial⟩) rfl rfl ?_
                refine rs rfl rfl rfl rfl rfl ?_; refine rq rfl rfl rfl rfl rfl ?_; refine rg_nil ?_; show HW _ _ _ _ _; refine hw_ret ?_; refine ⟨.inr rfl, ?_⟩
                have he : appErr d c = 0 := ((aE5 (by omega) hix).trans (cE2 (by assumption))).trans (by assumption)
                rw [aD2 he (by omega) (cT2 (by assumption))]
                exact ⟨_, _, _, _, rfl, (by (repeat' apply And.intro) <;> first | trivial | exact Nat.le_of_ble_eq_true rfl | rfl), rfl, (by (repeat' apply And.intro) <;> first | trivial | exact Nat.le_of_ble_eq_true rfl | rfl), ⟨CoC.refl _, cci he.symm, trivial⟩⟩
            · skip
              have h7 := r7
              have h7 := of_decide_eq_false h7
              try simp only [Int.toNat_natCast] at h7
              refine hw_skip ?_; show HW _ _ _ _ _; refine hw_seq ?_; refine hw_region (E := TryzE) Tryzok ?_; (iterate 4 refine rq rfl rfl rfl rfl rfl ?_); refine rc rfl rfl rfl rfl rfl rfl good62 (c62 _ _) (CoL.refl _) rfl rfl ?_
              (iterate 5 refine rq rfl rfl rfl rfl rfl ?_); refine rg_nil ?_; show HW _ _ _ _ _; (iterate 2 refine hw_seq ?_); refine hw_region (E := TryzE) Tryzok ?_; (iterate 2 refine rq rfl rfl rfl rfl rfl ?_); refine rg_nil ?_
              show HW _ _ _ _ _; refine hw_cond _ rfl (fun r9 => ?_) (fun r9 => ?_)
              · skip
                have h9 := r9
                have h9 := not_t h9
                have hfd : ¬ 0 ≤ rowIx (tblAt d c.name).rows c.row.id := of_decide_eq_false h9
                refine hw_seq ?_; refine hw_region (E := TryzE) Tryzok ?_; refine rq rfl rfl rfl rfl rfl ?_; refine rs rfl rfl rfl rfl rfl ?_; refine rq rfl rfl rfl rfl rfl ?_; refine rg_nil ?_; show HW _ _ _ _ _; refine hw_ret ?_
                refine ⟨.inr rfl, ?_⟩
                have he : appErr d c = 4 := (aE5 (by omega) hix).trans (cE4 (by assumption) hfd)
                rw [aD_err he (by first | assumption | omega | decide)]
                exact ⟨_, _, _, _, rfl, (by (repeat' apply And.intro) <;> first | trivial | exact Nat.le_of_ble_eq_true rfl | rfl), rfl, (by (repeat' apply And.intro) <;> first | trivial | exact Nat.le_of_ble_eq_true rfl | rfl), ⟨CoC.refl _, cci he.symm, trivial⟩⟩
              · skip
                have h9 := r9
                have h9 := not_f h9
                have hfd : 0 ≤ rowIx (tblAt d c.name).rows c.row.id := of_decide_eq_true h9
                have hra := row_at hfd
                have hra2 := hra
                unfold tblAt at hra2
                refine hw_skip ?_; show HW _ _ _ _ _; (iterate 2 refine hw_seq ?_); refine hw_draw (E := TryzE) Tryzok Tryzmixed [0, 1, 2, 3, 4, 5, 6, 7, 8] ?_; (iterate 7 refine rq rfl rfl rfl rfl rfl ?_)
                refine rc rfl rfl rfl rfl rfl rfl good54 (c54 ((tblAt d c.name).rows.getD (max (rowIx (tblAt d c.name).rows c.row.id) 0).toNat default) c.row (hT.ok.2.2 _ hra) hc.2.1) (CoL.refl _) rfl rfl ?_
                refine rq rfl rfl rfl rfl rfl ?_; refine rg_nil ?_; refine ⟨by kernel_rfl, ?_⟩; show HW _ _ _ _ _; refine hw_cond _ rfl (fun r10 => ?_) (fun r10 => ?_)
                · skip
                  have h10 := r10
                  have h10 := not_t h10
                  have hval : ¬ _ := fun e => absurd ((row_same hfd).2 e) (of_decide_eq_false h10)
                  refine hw_seq ?_; refine hw_region (E := TryzE) Tryzok ?_; refine rq rfl rfl rfl rfl rfl ?_; refine rs rfl rfl rfl rfl rfl ?_; refine rq rfl rfl rfl rfl rfl ?_; refine rg_nil ?_; show HW _ _ _ _ _; refine hw_ret ?_
                  refine ⟨.inr rfl, ?_⟩
                  have he : appErr d c = 16 := (aE5 (by omega) hix).trans (cE16 (by assumption) hfd hval)
                  rw [aD_err he (by first | assumption | omega | decide)]
                  exact ⟨_, _, _, _, rfl, (by (repeat' apply And.intro) <;> first | trivial | exact Nat.le_of_ble_eq_true rfl | rfl), rfl, (by (repeat' apply And.intro) <;> first | trivial | exact Nat.le_of_ble_eq_true rfl | rfl), ⟨CoC.refl _, cci he.symm, trivial⟩⟩
                · skip
                  have h10 := r10
                  have h10 := not_f h10
                  have hval := (row_same hfd).1 (of_decide_eq_true h10)
                  refine hw_skip ?_; show HW _ _ _ _ _; (iterate 2 refine hw_seq ?_); refine hw_region (E := TryzE) Tryzok ?_; (iterate 3 refine rq rfl rfl rfl rfl rfl ?_); refine rg_nil ?_; show HW _ _ _ _ _
                  refine hw_cond _ rfl (fun r11 => ?_) (fun r11 => ?_)
                  · skip
                    have h11 := r11
                    have h11 := of_decide_eq_true h11
                    try simp only [Int.toNat_natCast] at h11
                    refine hw_seq ?_; refine hw_region (E := TryzE) Tryzok ?_; (iterate 4 refine rq rfl rfl rfl rfl rfl ?_); refine rc rfl rfl rfl rfl rfl rfl good74 (c74 _ _) (CoL.refl _) rfl rfl ?_
                    (iterate 3 refine rq rfl rfl rfl rfl rfl ?_); refine rm 9 rfl rfl rfl rfl rfl rfl ?_; refine rs rfl rfl rfl rfl rfl ?_; refine rq rfl rfl rfl rfl rfl ?_; refine rg_nil ?_; show HW _ _ _ _ _; refine hw_seq ?_
                    refine hw_region (E := TryzE) Tryzok ?_; (iterate 3 refine rq rfl rfl rfl rfl rfl ?_)
                    refine rc rfl rfl rfl rfl rfl rfl good73 (c73 d (tblIx d c.name).toNat (delT (tblAt d c.name) c.row.id) (by have := hd.1; omega)) (⟨CoC.refl _, cci (by omega), CoC.refl _, trivial⟩) rfl rfl ?_
                    refine rs rfl rfl rfl rfl rfl ?_; refine rq rfl rfl rfl rfl rfl ?_; refine rg_nil ?_; show HW _ _ _ _ _; refine hw_ret ?_; refine ⟨.inr rfl, ?_⟩
                    have he : appErr d c = 0 := ((aE5 (by omega) hix).trans (cE3 (by assumption) hfd hval)).trans (by unfold delErr; rw [if_neg (by have := tok_iff.2 hT; omega), if_pos hfd])
                    rw [aD2 he (by omega) (cT3 (by assumption))]
                    exact ⟨_, _, _, _, rfl, (by (repeat' apply And.intro) <;> first | trivial | exact Nat.le_of_ble_eq_true rfl | rfl), rfl, (by (repeat' apply And.intro) <;> first | trivial | exact Nat.le_of_ble_eq_true rfl | rfl), ⟨CoC.refl _, cci he.symm, trivial⟩⟩
                  · skip
                    have h11 := r11
                    have h11 := of_decide_eq_false h11
                    try simp only [Int.toNat_natCast] at h11
                    refine hw_skip ?_; show HW _ _ _ _ _; refine hw_seq ?_; refine hw_region (E := TryzE) Tryzok ?_; (iterate 9 refine rq rfl rfl rfl rfl rfl ?_)
                    refine rc rfl rfl rfl rfl rfl rfl good63 (c63 _ _ _ _) (CoL.refl _) rfl rfl ?_; (iterate 3 refine rq rfl rfl rfl rfl rfl ?_); refine rm 10 rfl rfl rfl rfl rfl rfl ?_; refine rs rfl rfl rfl rfl rfl ?_
                    refine rq rfl rfl rfl rfl rfl ?_; refine rg_nil ?_; show HW _ _ _ _ _; (iterate 2 refine hw_seq ?_); refine hw_region (E := TryzE) Tryzok ?_; (iterate 2 refine rq rfl rfl rfl rfl rfl ?_); refine rg_nil ?_
                    show HW _ _ _ _ _; refine hw_cond _ rfl (fun r12 => ?_) (fun r12 => ?_)
                    · skip
                      have h12 := r12
                      have h12 := of_decide_eq_false (not_t h12)
                      try simp only [Int.toNat_natCast] at h12
                      refine hw_seq ?_; refine hw_region (E := TryzE) Tryzok ?_; (iterate 2 refine rq rfl rfl rfl rfl rfl ?_); refine rs rfl rfl rfl rfl rfl ?_; refine rq rfl rfl rfl rfl rfl ?_; refine rg_nil ?_; show HW _ _ _ _ _
                      refine hw_ret ?_; refine ⟨.inr rfl, ?_⟩
                      have he : appErr d c = chErr (tblAt d c.name) c.row.id c.attr c.value := (aE5 (by omega) hix).trans (cEc (by assumption) (by assumption) hfd hval)
                      rw [aD_err he (by first | assumption | omega | decide)]
                      exact ⟨_, _, _, _, rfl, (by (repeat' apply And.intro) <;> first | trivial | exact Nat.le_of_ble_eq_true rfl | rfl), rfl, (by (repeat' apply And.intro) <;> first | trivial | exact Nat.le_of_ble_eq_true rfl | rfl), ⟨CoC.refl _, cci he.symm, trivial⟩⟩
                    · skip
                      have h12 := r12
                      have h12 := of_decide_eq_true (not_f h12)
                      try simp only [Int.toNat_natCast] at h12
                      refine hw_skip ?_; show HW _ _ _ _ _; refine hw_seq ?_; refine hw_region (E := TryzE) Tryzok ?_; (iterate 3 refine rq rfl rfl rfl rfl rfl ?_)
                      refine rc rfl rfl rfl rfl rfl rfl good73 (c73 d (tblIx d c.name).toNat (chT (tblAt d c.name) c.row.id c.attr c.value) (by have := hd.1; omega)) (⟨CoC.refl _, cci (by omega), CoC.refl _, trivial⟩) rfl rfl ?_
                      refine rs rfl rfl rfl rfl rfl ?_; refine rq rfl rfl rfl rfl rfl ?_; refine rg_nil ?_; show HW _ _ _ _ _; refine hw_ret ?_; refine ⟨.inr rfl, ?_⟩
                      have he : appErr d c = 0 := ((aE5 (by omega) hix).trans (cEc (by assumption) (by assumption) hfd hval)).trans (by assumption)
                      rw [aD2 he (by omega) (cT4 (by assumption) (by assumption))]
                      exact ⟨_, _, _, _, rfl, (by (repeat' apply And.intro) <;> first | trivial | exact Nat.le_of_ble_eq_true rfl | rfl), rfl, (by (repeat' apply And.intro) <;> first | trivial | exact Nat.le_of_ble_eq_true rfl | rfl), ⟨CoC.refl _, cci he.symm, trivial⟩⟩
      · skip
        have h4 := r4
        have h4 := bif_t r3 h4
        have h4 := of_decide_eq_true (not_f h4)
        try simp only [Int.toNat_natCast] at h4
        (iterate 3 refine rk rfl rfl rfl (gft r4) ?_); refine rq rfl rfl rfl rfl rfl ?_ (hp := r4); refine rg_nil ?_; show HW _ _ _ _ _; refine hw_cond _ rfl (fun e => by cases e) (fun _ => ?_); refine hw_skip ?_; show HW _ _ _ _ _
        refine hw_seq ?_; refine hw_region (E := TryzE) Tryzok ?_; (iterate 3 refine rq rfl rfl rfl rfl rfl ?_); refine rc rfl rfl rfl rfl rfl rfl good60 (c60 _ _) (CoL.refl _) rfl rfl ?_; refine rq rfl rfl rfl rfl rfl ?_
        refine rg_nil ?_; show HW _ _ _ _ _; (iterate 2 refine hw_seq ?_); refine hw_region (E := TryzE) Tryzok ?_; (iterate 2 refine rq rfl rfl rfl rfl rfl ?_); refine rg_nil ?_; show HW _ _ _ _ _
        refine hw_cond _ rfl (fun r13 => ?_) (fun r13 => ?_)
        · skip
          have h13 := r13
          have h13 := of_decide_eq_true h13
          try simp only [Int.toNat_natCast] at h13
          refine hw_seq ?_; refine hw_region (E := TryzE) Tryzok ?_; refine rq rfl rfl rfl rfl rfl ?_; refine rs rfl rfl rfl rfl rfl ?_; refine rq rfl rfl rfl rfl rfl ?_; refine rg_nil ?_; show HW _ _ _ _ _; refine hw_ret ?_
          refine ⟨.inr rfl, ?_⟩
          have he : appErr d c = 4 := aE4 (by omega) (by assumption)
          rw [aD_err he (by first | assumption | omega | decide)]
          exact ⟨_, _, _, _, rfl, (by (repeat' apply And.intro) <;> first | trivial | exact Nat.le_of_ble_eq_true rfl | rfl), rfl, (by (repeat' apply And.intro) <;> first | trivial | exact Nat.le_of_ble_eq_true rfl | rfl), ⟨CoC.refl _, cci he.symm, trivial⟩⟩
        · skip
          have h13 := r13
          have h13 := of_decide_eq_false h13
          try simp only [Int.toNat_natCast] at h13
          have hix := h13
          have htb := tbl_at h13
          have hT : TOk (tblAt d c.name) := hd.at h13
          refine hw_skip ?_; show HW _ _ _ _ _; refine hw_seq ?_; refine hw_region (E := TryzE) Tryzok ?_; (iterate 5 refine rq rfl rfl rfl rfl rfl ?_); refine rm 11 rfl rfl rfl rfl rfl rfl ?_; refine rs rfl rfl rfl rfl rfl ?_
          refine rg_nil ?_; show HW _ _ _ _ _; (iterate 2 refine hw_seq ?_); refine hw_region (E := TryzE) Tryzok ?_; (iterate 3 refine rq rfl rfl rfl rfl rfl ?_); refine rg_nil ?_; show HW _ _ _ _ _
          refine hw_cond _ rfl (fun r14 => ?_) (fun r14 => ?_)
          · skip
            have h14 := r14
            have h14 := of_decide_eq_true h14
            try simp only [Int.toNat_natCast] at h14
            refine hw_seq ?_; refine hw_region (E := TryzE) Tryzok ?_; (iterate 3 refine rq rfl rfl rfl rfl rfl ?_); refine rc rfl rfl rfl rfl rfl rfl good61 (c61 _ _) (CoL.refl _) rfl rfl ?_
            (iterate 3 refine rq rfl rfl rfl rfl rfl ?_); refine rm 12 rfl rfl rfl rfl rfl rfl ?_; refine rs rfl rfl rfl rfl rfl ?_; refine rq rfl rfl rfl rfl rfl ?_; refine rg_nil ?_; show HW _ _ _ _ _; (iterate 2 refine hw_seq ?_)
            refine hw_region (E := TryzE) Tryzok ?_; (iterate 2 refine rq rfl rfl rfl rfl rfl ?_); refine rg_nil ?_; show HW _ _ _ _ _; refine hw_cond _ rfl (fun r15 => ?_) (fun r15 => ?_)
            · skip
              have h15 := r15
              have h15 := of_decide_eq_false (not_t h15)
              try simp only [Int.toNat_natCast] at h15
              refine hw_seq ?_; refine hw_region (E := TryzE) Tryzok ?_; (iterate 2 refine rq rfl rfl rfl rfl rfl ?_); refine rs rfl rfl rfl rfl rfl ?_; refine rq rfl rfl rfl rfl rfl ?_; refine rg_nil ?_; show HW _ _ _ _ _
              refine hw_ret ?_; refine ⟨.inr rfl, ?_⟩
              have he : appErr d c = insErr (tblAt d c.name) c.row := (aE5 (by omega) hix).trans (cE2 (by assumption))
              rw [aD_err he (by first | assumption | omega | decide)]
              exact ⟨_, _, _, _, rfl, (by (repeat' apply And.intro) <;> first | trivial | exact Nat.le_of_ble_eq_true rfl | rfl), rfl, (by (repeat' apply And.intro) <;> first | trivial | exact Nat.le_of_ble_eq_true rfl | rfl), ⟨CoC.refl _, cci he.symm, trivial⟩⟩
            · skip
              have h15 := r15
              have h15 := of_decide_eq_true (not_f h15)
              try simp only [Int.toNat_natCast] at h15
              refine hw_skip ?_; show HW _ _ _ _ _; refine hw_seq ?_; refine hw_region (E := TryzE) Tryzok ?_; (iterate 3 refine rq rfl rfl rfl rfl rfl ?_)
              refine rc rfl rfl rfl rfl rfl rfl good73 (c73 d (tblIx d c.name).toNat (insT (tblAt d c.name) c.row) (by have := hd.1; omega)) (⟨CoC.refl _, cci (by omega), CoC.refl _, trivial⟩) rfl rfl ?_
              refine rs rfl rfl rfl rfl rfl ?_; refine rq rfl rfl rfl rfl rfl ?_; refine rg_nil ?_; show HW _ _ _ _ _; refine hw_ret ?_; refine ⟨.inr rfl, ?_⟩
              have he : appErr d c = 0 := ((aE5 (by omega) hix).trans (cE2 (by assumption))).trans (by assumption)
              rw [aD2 he (by omega) (cT2 (by assumption))]
              exact ⟨_, _, _, _, rfl, (by (repeat' apply And.intro) <;> first | trivial | exact Nat.le_of_ble_eq_true rfl | rfl), rfl, (by (repeat' apply And.intro) <;> first | trivial | exact Nat.le_of_ble_eq_true rfl | rfl), ⟨CoC.refl _, cci he.symm, trivial⟩⟩
          · skip
            have h14 := r14
            have h14 := of_decide_eq_false h14
            try simp only [Int.toNat_natCast] at h14
            refine hw_skip ?_; show HW _ _ _ _ _; refine hw_seq ?_; refine hw_region (E := TryzE) Tryzok ?_; (iterate 4 refine rq rfl rfl rfl rfl rfl ?_); refine rc rfl rfl rfl rfl rfl rfl good62 (c62 _ _) (CoL.refl _) rfl rfl ?_
            (iterate 5 refine rq rfl rfl rfl rfl rfl ?_); refine rg_nil ?_; show HW _ _ _ _ _; (iterate 2 refine hw_seq ?_); refine hw_region (E := TryzE) Tryzok ?_; (iterate 2 refine rq rfl rfl rfl rfl rfl ?_); refine rg_nil ?_
            show HW _ _ _ _ _; refine hw_cond _ rfl (fun r16 => ?_) (fun r16 => ?_)
            · skip
              have h16 := r16
              have h16 := not_t h16
              have hfd : ¬ 0 ≤ rowIx (tblAt d c.name).rows c.row.id := of_decide_eq_false h16
              refine hw_seq ?_; refine hw_region (E := TryzE) Tryzok ?_; refine rq rfl rfl rfl rfl rfl ?_; refine rs rfl rfl rfl rfl rfl ?_; refine rq rfl rfl rfl rfl rfl ?_; refine rg_nil ?_; show HW _ _ _ _ _; refine hw_ret ?_
              refine ⟨.inr rfl, ?_⟩
              have he : appErr d c = 4 := (aE5 (by omega) hix).trans (cE4 (by assumption) hfd)
              rw [aD_err he (by first | assumption | omega | decide)]
              exact ⟨_, _, _, _, rfl, (by (repeat' apply And.intro) <;> first | trivial | exact Nat.le_of_ble_eq_true rfl | rfl), rfl, (by (repeat' apply And.intro) <;> first | trivial | exact Nat.le_of_ble_eq_true rfl | rfl), ⟨CoC.refl _, cci he.symm, trivial⟩⟩
            · skip
              have h16 := r16
              have h16 := not_f h16
              have hfd : 0 ≤ rowIx (tblAt d c.name).rows c.row.id := of_decide_eq_true h16
              have hra := row_at hfd
              have hra2 := hra
              unfold tblAt at hra2
              refine hw_skip ?_; show HW _ _ _ _ _; (iterate 2 refine hw_seq ?_); refine hw_draw (E := TryzE) Tryzok Tryzmixed [0, 1, 2, 3, 4, 5, 6, 7, 8] ?_; (iterate 7 refine rq rfl rfl rfl rfl rfl ?_)
              refine rc rfl rfl rfl rfl rfl rfl good54 (c54 ((tblAt d c.name).rows.getD (max (rowIx (tblAt d c.name).rows c.row.id) 0).toNat default) c.row (hT.ok.2.2 _ hra) hc.2.1) (CoL.refl _) rfl rfl ?_
              refine rq rfl rfl rfl rfl rfl ?_; refine rg_nil ?_; refine ⟨by kernel_rfl, ?_⟩; show HW _ _ _ _ _; refine hw_cond _ rfl (fun r17 => ?_) (fun r17 => ?_)
              · skip
                have h17 := r17
                have h17 := not_t h17
                have hval : ¬ _ := fun e => absurd ((row_same hfd).2 e) (of_decide_eq_false h17)
                refine hw_seq ?_; refine hw_region (E := TryzE) Tryzok ?_; refine rq rfl rfl rfl rfl rfl ?_; refine rs rfl rfl rfl rfl rfl ?_; refine rq rfl rfl rfl rfl rfl ?_; refine rg_nil ?_; show HW _ _ _ _ _; refine hw_ret ?_
                refine ⟨.inr rfl, ?_⟩
                have he : appErr d c = 16 := (aE5 (by omega) hix).trans (cE16 (by assumption) hfd hval)
                rw [aD_err he (by first | assumption | omega | decide)]
                exact ⟨_, _, _, _, rfl, (by (repeat' apply And.intro) <;> first | trivial | exact Nat.le_of_ble_eq_true rfl | rfl), rfl, (by (repeat' apply And.intro) <;> first | trivial | exact Nat.le_of_ble_eq_true rfl | rfl), ⟨CoC.refl _, cci he.symm, trivial⟩⟩
              · skip
                have h17 := r17
                have h17 := not_f h17
                have hval := (row_same hfd).1 (of_decide_eq_true h17)
                refine hw_skip ?_; show HW _ _ _ _ _; (iterate 2 refine hw_seq ?_); refine hw_region (E := TryzE) Tryzok ?_; (iterate 3 refine rq rfl rfl rfl rfl rfl ?_); refine rg_nil ?_; show HW _ _ _ _ _
                refine hw_cond _ rfl (fun r18 => ?_) (fun r18 => ?_)
                · skip
                  have h18 := r18
                  have h18 := of_decide_eq_true h18
                  try simp only [Int.toNat_natCast] at h18
                  refine hw_seq ?_; refine hw_region (E := TryzE) Tryzok ?_; (iterate 4 refine rq rfl rfl rfl rfl rfl ?_); refine rc rfl rfl rfl rfl rfl rfl good74 (c74 _ _) (CoL.refl _) rfl rfl ?_
                  (iterate 3 refine rq rfl rfl rfl rfl rfl ?_); refine rm 13 rfl rfl rfl rfl rfl rfl ?_; refine rs rfl rfl rfl rfl rfl ?_; refine rq rfl rfl rfl rfl rfl ?_; refine rg_nil ?_; show HW _ _ _ _ _; refine hw_seq ?_
                  refine hw_region (E := TryzE) Tryzok ?_; (iterate 3 refine rq rfl rfl rfl rfl rfl ?_)
                  refine rc rfl rfl rfl rfl rfl rfl good73 (c73 d (tblIx d c.name).toNat (delT (tblAt d c.name) c.row.id) (by have := hd.1; omega)) (⟨CoC.refl _, cci (by omega), CoC.refl _, trivial⟩) rfl rfl ?_
                  refine rs rfl rfl rfl rfl rfl ?_; refine rq rfl rfl rfl rfl rfl ?_; refine rg_nil ?_; show HW _ _ _ _ _; refine hw_ret ?_; refine ⟨.inr rfl, ?_⟩
                  have he : appErr d c = 0 := ((aE5 (by omega) hix).trans (cE3 (by assumption) hfd hval)).trans (by unfold delErr; rw [if_neg (by have := tok_iff.2 hT; omega), if_pos hfd])
                  rw [aD2 he (by omega) (cT3 (by assumption))]
                  exact ⟨_, _, _, _, rfl, (by (repeat' apply And.intro) <;> first | trivial | exact Nat.le_of_ble_eq_true rfl | rfl), rfl, (by (repeat' apply And.intro) <;> first | trivial | exact Nat.le_of_ble_eq_true rfl | rfl), ⟨CoC.refl _, cci he.symm, trivial⟩⟩
                · skip
                  have h18 := r18
                  have h18 := of_decide_eq_false h18
                  try simp only [Int.toNat_natCast] at h18
                  refine hw_skip ?_; show HW _ _ _ _ _; refine hw_seq ?_; refine hw_region (E := TryzE) Tryzok ?_; (iterate 9 refine rq rfl rfl rfl rfl rfl ?_)
                  refine rc rfl rfl rfl rfl rfl rfl good63 (c63 _ _ _ _) (CoL.refl _) rfl rfl ?_; (iterate 3 refine rq rfl rfl rfl rfl rfl ?_); refine rm 14 rfl rfl rfl rfl rfl rfl ?_; refine rs rfl rfl rfl rfl rfl ?_
                  refine rq rfl rfl rfl rfl rfl ?_; refine rg_nil ?_; show HW _ _ _ _ _; (iterate 2 refine hw_seq ?_); refine hw_region (E := TryzE) Tryzok ?_; (iterate 2 refine rq rfl rfl rfl rfl rfl ?_); refine rg_nil ?_
                  show HW _ _ _ _ _; refine hw_cond _ rfl (fun r19 => ?_) (fun r19 => ?_)
                  · skip
                    have h19 := r19
                    have h19 := of_decide_eq_false (not_t h19)
                    try simp only [Int.toNat_natCast] at h19
                    refine hw_seq ?_; refine hw_region (E := TryzE) Tryzok ?_; (iterate 2 refine rq rfl rfl rfl rfl rfl ?_); refine rs rfl rfl rfl rfl rfl ?_; refine rq rfl rfl rfl rfl rfl ?_; refine rg_nil ?_; show HW _ _ _ _ _
                    refine hw_ret ?_; refine ⟨.inr rfl, ?_⟩
                    have he : appErr d c = chErr (tblAt d c.name) c.row.id c.attr c.value := (aE5 (by omega) hix).trans (cEc (by assumption) (by assumption) hfd hval)
                    rw [aD_err he (by first | assumption | omega | decide)]
                    exact ⟨_, _, _, _, rfl, (by (repeat' apply And.intro) <;> first | trivial | exact Nat.le_of_ble_eq_true rfl | rfl), rfl, (by (repeat' apply And.intro) <;> first | trivial | exact Nat.le_of_ble_eq_true rfl | rfl), ⟨CoC.refl _, cci he.symm, trivial⟩⟩
                  · skip
                    have h19 := r19
                    have h19 := of_decide_eq_true (not_f h19)
                    try simp only [Int.toNat_natCast] at h19
                    refine hw_skip ?_; show HW _ _ _ _ _; refine hw_seq ?_; refine hw_region (E := TryzE) Tryzok ?_; (iterate 3 refine rq rfl rfl rfl rfl rfl ?_)
                    refine rc rfl rfl rfl rfl rfl rfl good73 (c73 d (tblIx d c.name).toNat (chT (tblAt d c.name) c.row.id c.attr c.value) (by have := hd.1; omega)) (⟨CoC.refl _, cci (by omega), CoC.refl _, trivial⟩) rfl rfl ?_
                    refine rs rfl rfl rfl rfl rfl ?_; refine rq rfl rfl rfl rfl rfl ?_; refine rg_nil ?_; show HW _ _ _ _ _; refine hw_ret ?_; refine ⟨.inr rfl, ?_⟩
                    have he : appErr d c = 0 := ((aE5 (by omega) hix).trans (cEc (by assumption) (by assumption) hfd hval)).trans (by assumption)
                    rw [aD2 he (by omega) (cT4 (by assumption) (by assumption))]
                    exact ⟨_, _, _, _, rfl, (by (repeat' apply And.intro) <;> first | trivial | exact Nat.le_of_ble_eq_true rfl | rfl), rfl, (by (repeat' apply And.intro) <;> first | trivial | exact Nat.le_of_ble_eq_true rfl | rfl), ⟨CoC.refl _, cci he.symm, trivial⟩⟩
    · skip
      have h3 := r3
      have h3 := of_decide_eq_true (not_f h3)
      try simp only [Int.toNat_natCast] at h3
      (iterate 3 refine rk rfl rfl rfl (gft r3) ?_); refine rq rfl rfl rfl rfl rfl ?_ (hp := r3); refine rq rfl rfl rfl rfl rfl ?_; (iterate 3 refine rk rfl rfl rfl rfl ?_); refine rq rfl rfl rfl rfl rfl ?_; refine rg_nil ?_
      show HW _ _ _ _ _; refine hw_cond _ rfl (fun e => by cases e) (fun _ => ?_); refine hw_skip ?_; show HW _ _ _ _ _; refine hw_seq ?_; refine hw_region (E := TryzE) Tryzok ?_; (iterate 3 refine rq rfl rfl rfl rfl rfl ?_)
      refine rc rfl rfl rfl rfl rfl rfl good60 (c60 _ _) (CoL.refl _) rfl rfl ?_; refine rq rfl rfl rfl rfl rfl ?_; refine rg_nil ?_; show HW _ _ _ _ _; (iterate 2 refine hw_seq ?_); refine hw_region (E := TryzE) Tryzok ?_
      (iterate 2 refine rq rfl rfl rfl rfl rfl ?_); refine rg_nil ?_; show HW _ _ _ _ _; refine hw_cond _ rfl (fun r20 => ?_) (fun r20 => ?_)
      · skip
        have h20 := r20
        have h20 := of_decide_eq_true h20
        try simp only [Int.toNat_natCast] at h20
        refine hw_seq ?_; refine hw_region (E := TryzE) Tryzok ?_; refine rq rfl rfl rfl rfl rfl ?_; refine rs rfl rfl rfl rfl rfl ?_; refine rq rfl rfl rfl rfl rfl ?_; refine rg_nil ?_; show HW _ _ _ _ _; refine hw_ret ?_
        refine ⟨.inr rfl, ?_⟩
        have he : appErr d c = 4 := aE4 (by omega) (by assumption)
        rw [aD_err he (by first | assumption | omega | decide)]
        exact ⟨_, _, _, _, rfl, (by (repeat' apply And.intro) <;> first | trivial | exact Nat.le_of_ble_eq_true rfl | rfl), rfl, (by (repeat' apply And.intro) <;> first | trivial | exact Nat.le_of_ble_eq_true rfl | rfl), ⟨CoC.refl _, cci he.symm, trivial⟩⟩
      · skip
        have h20 := r20
        have h20 := of_decide_eq_false h20
        try simp only [Int.toNat_natCast] at h20
        have hix := h20
        have htb := tbl_at h20
        have hT : TOk (tblAt d c.name) := hd.at h20
        refine hw_skip ?_; show HW _ _ _ _ _; refine hw_seq ?_; refine hw_region (E := TryzE) Tryzok ?_; (iterate 5 refine rq rfl rfl rfl rfl rfl ?_); refine rm 15 rfl rfl rfl rfl rfl rfl ?_; refine rs rfl rfl rfl rfl rfl ?_
        refine rg_nil ?_; show HW _ _ _ _ _; (iterate 2 refine hw_seq ?_); refine hw_region (E := TryzE) Tryzok ?_; (iterate 3 refine rq rfl rfl rfl rfl rfl ?_); refine rg_nil ?_; show HW _ _ _ _ _
        refine hw_cond _ rfl (fun r21 => ?_) (fun r21 => ?_)
        · skip
          have h21 := r21
          have h21 := of_decide_eq_true h21
          try simp only [Int.toNat_natCast] at h21
          refine hw_seq ?_; refine hw_region (E := TryzE) Tryzok ?_; (iterate 3 refine rq rfl rfl rfl rfl rfl ?_); refine rc rfl rfl rfl rfl rfl rfl good61 (c61 _ _) (CoL.refl _) rfl rfl ?_
          (iterate 3 refine rq rfl rfl rfl rfl rfl ?_); refine rm 16 rfl rfl rfl rfl rfl rfl ?_; refine rs rfl rfl rfl rfl rfl ?_; refine rq rfl rfl rfl rfl rfl ?_; refine rg_nil ?_; show HW _ _ _ _ _; (iterate 2 refine hw_seq ?_)
          refine hw_region (E := TryzE) Tryzok ?_; (iterate 2 refine rq rfl rfl rfl rfl rfl ?_); refine rg_nil ?_; show HW _ _ _ _ _; refine hw_cond _ rfl (fun r22 => ?_) (fun r22 => ?_)
          · skip
            have h22 := r22
            have h22 := of_decide_eq_false (not_t h22)
            try simp only [Int.toNat_natCast] at h22
            refine hw_seq ?_; refine hw_region (E := TryzE) Tryzok ?_; (iterate 2 refine rq rfl rfl rfl rfl rfl ?_); refine rs rfl rfl rfl rfl rfl ?_; refine rq rfl rfl rfl rfl rfl ?_; refine rg_nil ?_; show HW _ _ _ _ _
            refine hw_ret ?_; refine ⟨.inr rfl, ?_⟩
            have he : appErr d c = insErr (tblAt d c.name) c.row := (aE5 (by omega) hix).trans (cE2 (by assumption))
            rw [aD_err he (by first | assumption | omega | decide)]
            exact ⟨_, _, _, _, rfl, (by (repeat' apply And.intro) <;> first | trivial | exact Nat.le_of_ble_eq_true rfl | rfl), rfl, (by (repeat' apply And.intro) <;> first | trivial | exact Nat.le_of_ble_eq_true rfl | rfl), ⟨CoC.refl _, cci he.symm, trivial⟩⟩
          · skip
            have h22 := r22
            have h22 := of_decide_eq_true (not_f h22)
            try simp only [Int.toNat_natCast] at h22
            refine hw_skip ?_; show HW _ _ _ _ _; refine hw_seq ?_; refine hw_region (E := TryzE) Tryzok ?_; (iterate 3 refine rq rfl rfl rfl rfl rfl ?_)
            refine rc rfl rfl rfl rfl rfl rfl good73 (c73 d (tblIx d c.name).toNat (insT (tblAt d c.name) c.row) (by have := hd.1; omega)) (⟨CoC.refl _, cci (by omega), CoC.refl _, trivial⟩) rfl rfl ?_
            refine rs rfl rfl rfl rfl rfl ?_; refine rq rfl rfl rfl rfl rfl ?_; refine rg_nil ?_; show HW _ _ _ _ _; refine hw_ret ?_; refine ⟨.inr rfl, ?_⟩
            have he : appErr d c = 0 := ((aE5 (by omega) hix).trans (cE2 (by assumption))).trans (by assumption)
            rw [aD2 he (by omega) (cT2 (by assumption))]
            exact ⟨_, _, _, _, rfl, (by (repeat' apply And.intro) <;> first | trivial | exact Nat.le_of_ble_eq_true rfl | rfl), rfl, (by (repeat' apply And.intro) <;> first | trivial | exact Nat.le_of_ble_eq_true rfl | rfl), ⟨CoC.refl _, cci he.symm, trivial⟩⟩
        · skip
          have h21 := r21
          have h21 := of_decide_eq_false h21
          try simp only [Int.toNat_natCast] at h21
          refine hw_skip ?_; show HW _ _ _ _ _; refine hw_seq ?_; refine hw_region (E := TryzE) Tryzok ?_; (iterate 4 refine rq rfl rfl rfl rfl rfl ?_); refine rc rfl rfl rfl rfl rfl rfl good62 (c62 _ _) (CoL.refl _) rfl rfl ?_
          (iterate 5 refine rq rfl rfl rfl rfl rfl ?_); refine rg_nil ?_; show HW _ _ _ _ _; (iterate 2 refine hw_seq ?_); refine hw_region (E := TryzE) Tryzok ?_; (iterate 2 refine rq rfl rfl rfl rfl rfl ?_); refine rg_nil ?_
          show HW _ _ _ _ _; refine hw_cond _ rfl (fun r23 => ?_) (fun r23 => ?_)
          · skip
            have h23 := r23
            have h23 := not_t h23
            have hfd : ¬ 0 ≤ rowIx (tblAt d c.name).rows c.row.id := of_decide_eq_false h23
            refine hw_seq ?_; refine hw_region (E := TryzE) Tryzok ?_; refine rq rfl rfl rfl rfl rfl ?_; refine rs rfl rfl rfl rfl rfl ?_; refine rq rfl rfl rfl rfl rfl ?_; refine rg_nil ?_; show HW _ _ _ _ _; refine hw_ret ?_
            refine ⟨.inr rfl, ?_⟩
            have he : appErr d c = 4 := (aE5 (by omega) hix).trans (cE4 (by assumption) hfd)
            rw [aD_err he (by first | assumption | omega | decide)]
            exact ⟨_, _, _, _, rfl, (by (repeat' apply And.intro) <;> first | trivial | exact Nat.le_of_ble_eq_true rfl | rfl), rfl, (by (repeat' apply And.intro) <;> first | trivial | exact Nat.le_of_ble_eq_true rfl | rfl), ⟨CoC.refl _, cci he.symm, trivial⟩⟩
          · skip
            have h23 := r23
            have h23 := not_f h23
            have hfd : 0 ≤ rowIx (tblAt d c.name).rows c.row.id := of_decide_eq_true h23
            have hra := row_at hfd
            have hra2 := hra
            unfold tblAt at hra2
            refine hw_skip ?_; show HW _ _ _ _ _; (iterate 2 refine hw_seq ?_); refine hw_draw (E := TryzE) Tryzok Tryzmixed [0, 1, 2, 3, 4, 5, 6, 7, 8] ?_; (iterate 7 refine rq rfl rfl rfl rfl rfl ?_)
            refine rc rfl rfl rfl rfl rfl rfl good54 (c54 ((tblAt d c.name).rows.getD (max (rowIx (tblAt d c.name).rows c.row.id) 0).toNat default) c.row (hT.ok.2.2 _ hra) hc.2.1) (CoL.refl _) rfl rfl ?_
            refine rq rfl rfl rfl rfl rfl ?_; refine rg_nil ?_; refine ⟨by kernel_rfl, ?_⟩; show HW _ _ _ _ _; refine hw_cond _ rfl (fun r24 => ?_) (fun r24 => ?_)
            · skip
              have h24 := r24
              have h24 := not_t h24
              have hval : ¬ _ := fun e => absurd ((row_same hfd).2 e) (of_decide_eq_false h24)
              refine hw_seq ?_; refine hw_region (E := TryzE) Tryzok ?_; refine rq rfl rfl rfl rfl rfl ?_; refine rs rfl rfl rfl rfl rfl ?_; refine rq rfl rfl rfl rfl rfl ?_; refine rg_nil ?_; show HW _ _ _ _ _; refine hw_ret ?_
              refine ⟨.inr rfl, ?_⟩
              have he : appErr d c = 16 := (aE5 (by omega) hix).trans (cE16 (by assumption) hfd hval)
              rw [aD_err he (by first | assumption | omega | decide)]
              exact ⟨_, _, _, _, rfl, (by (repeat' apply And.intro) <;> first | trivial | exact Nat.le_of_ble_eq_true rfl | rfl), rfl, (by (repeat' apply And.intro) <;> first | trivial | exact Nat.le_of_ble_eq_true rfl | rfl), ⟨CoC.refl _, cci he.symm, trivial⟩⟩
            · skip
              have h24 := r24
              have h24 := not_f h24
              have hval := (row_same hfd).1 (of_decide_eq_true h24)
              refine hw_skip ?_; show HW _ _ _ _ _; (iterate 2 refine hw_seq ?_); refine hw_region (E := TryzE) Tryzok ?_; (iterate 3 refine rq rfl rfl rfl rfl rfl ?_); refine rg_nil ?_; show HW _ _ _ _ _
              refine hw_cond _ rfl (fun r25 => ?_) (fun r25 => ?_)
              · skip
                have h25 := r25
                have h25 := of_decide_eq_true h25
                try simp only [Int.toNat_natCast] at h25
                refine hw_seq ?_; refine hw_region (E := TryzE) Tryzok ?_; (iterate 4 refine rq rfl rfl rfl rfl rfl ?_); refine rc rfl rfl rfl rfl rfl rfl good74 (c74 _ _) (CoL.refl _) rfl rfl ?_
                (iterate 3 refine rq rfl rfl rfl rfl rfl ?_); refine rm 17 rfl rfl rfl rfl rfl rfl ?_; refine rs rfl rfl rfl rfl rfl ?_; refine rq rfl rfl rfl rfl rfl ?_; refine rg_nil ?_; show HW _ _ _ _ _; refine hw_seq ?_
                refine hw_region (E := TryzE) Tryzok ?_; (iterate 3 refine rq rfl rfl rfl rfl rfl ?_)
                refine rc rfl rfl rfl rfl rfl rfl good73 (c73 d (tblIx d c.name).toNat (delT (tblAt d c.name) c.row.id) (by have := hd.1; omega)) (⟨CoC.refl _, cci (by omega), CoC.refl _, trivial⟩) rfl rfl ?_
                refine rs rfl rfl rfl rfl rfl ?_; refine rq rfl rfl rfl rfl rfl ?_; refine rg_nil ?_; show HW _ _ _ _ _; refine hw_ret ?_; refine ⟨.inr rfl, ?_⟩
                have he : appErr d c = 0 := ((aE5 (by omega) hix).trans (cE3 (by assumption) hfd hval)).trans (by unfold delErr; rw [if_neg (by have := tok_iff.2 hT; omega), if_pos hfd])
                rw [aD2 he (by omega) (cT3 (by assumption))]
                exact ⟨_, _, _, _, rfl, (by (repeat' apply And.intro) <;> first | trivial | exact Nat.le_of_ble_eq_true rfl | rfl), rfl, (by (repeat' apply And.intro) <;> first | trivial | exact Nat.le_of_ble_eq_true rfl | rfl), ⟨CoC.refl _, cci he.symm, trivial⟩⟩
              · skip
                have h25 := r25
                have h25 := of_decide_eq_false h25
                try simp only [Int.toNat_natCast] at h25
                refine hw_skip ?_; show HW _ _ _ _ _; refine hw_seq ?_; refine hw_region (E := TryzE) Tryzok ?_; (iterate 9 refine rq rfl rfl rfl rfl rfl ?_)
                refine rc rfl rfl rfl rfl rfl rfl good63 (c63 _ _ _ _) (CoL.refl _) rfl rfl ?_; (iterate 3 refine rq rfl rfl rfl rfl rfl ?_); refine rm 18 rfl rfl rfl rfl rfl rfl ?_; refine rs rfl rfl rfl rfl rfl ?_
                refine rq rfl rfl rfl rfl rfl ?_; refine rg_nil ?_; show HW _ _ _ _ _; (iterate 2 refine hw_seq ?_); refine hw_region (E := TryzE) Tryzok ?_; (iterate 2 refine rq rfl rfl rfl rfl rfl ?_); refine rg_nil ?_
                show HW _ _ _ _ _; refine hw_cond _ rfl (fun r26 => ?_) (fun r26 => ?_)
                · skip
                  have h26 := r26
                  have h26 := of_decide_eq_false (not_t h26)
                  try simp only [Int.toNat_natCast] at h26
                  refine hw_seq ?_; refine hw_region (E := TryzE) Tryzok ?_; (iterate 2 refine rq rfl rfl rfl rfl rfl ?_); refine rs rfl rfl rfl rfl rfl ?_; refine rq rfl rfl rfl rfl rfl ?_; refine rg_nil ?_; show HW _ _ _ _ _
                  refine hw_ret ?_; refine ⟨.inr rfl, ?_⟩
                  have he : appErr d c = chErr (tblAt d c.name) c.row.id c.attr c.value := (aE5 (by omega) hix).trans (cEc (by assumption) (by assumption) hfd hval)
                  rw [aD_err he (by first | assumption | omega | decide)]
                  exact ⟨_, _, _, _, rfl, (by (repeat' apply And.intro) <;> first | trivial | exact Nat.le_of_ble_eq_true rfl | rfl), rfl, (by (repeat' apply And.intro) <;> first | trivial | exact Nat.le_of_ble_eq_true rfl | rfl), ⟨CoC.refl _, cci he.symm, trivial⟩⟩
                · skip
                  have h26 := r26
                  have h26 := of_decide_eq_true (not_f h26)
                  try simp only [Int.toNat_natCast] at h26
                  refine hw_skip ?_; show HW _ _ _ _ _; refine hw_seq ?_; refine hw_region (E := TryzE) Tryzok ?_; (iterate 3 refine rq rfl rfl rfl rfl rfl ?_)
                  refine rc rfl rfl rfl rfl rfl rfl good73 (c73 d (tblIx d c.name).toNat (chT (tblAt d c.name) c.row.id c.attr c.value) (by have := hd.1; omega)) (⟨CoC.refl _, cci (by omega), CoC.refl _, trivial⟩) rfl rfl ?_
                  refine rs rfl rfl rfl rfl rfl ?_; refine rq rfl rfl rfl rfl rfl ?_; refine rg_nil ?_; show HW _ _ _ _ _; refine hw_ret ?_; refine ⟨.inr rfl, ?_⟩
                  have he : appErr d c = 0 := ((aE5 (by omega) hix).trans (cEc (by assumption) (by assumption) hfd hval)).trans (by assumption)
                  rw [aD2 he (by omega) (cT4 (by assumption) (by assumption))]
                  exact ⟨_, _, _, _, rfl, (by (repeat' apply And.intro) <;> first | trivial | exact Nat.le_of_ble_eq_true rfl | rfl), rfl, (by (repeat' apply And.intro) <;> first | trivial | exact Nat.le_of_ble_eq_true rfl | rfl), ⟨CoC.refl _, cci he.symm, trivial⟩⟩
end Go.Hx
end
