/- A part of the proof: lemmas for the theorem of this claim, merged by a program of ours out of W21. -/
import Derived.Test.YtdcdbghdgjlhhaaGreatN21
import Derived.Test.YtdcdbghdgjlhhaaGreatN26
set_option linter.all false
section
namespace Go.Hx
open Go.Proofs
set_option maxRecDepth 100000
theorem set_co {d : DB} {k : Nat} {t : Tbl} (hk : k < d.length) : CoP (.sl d.length 3 false (setEl (lf Tbl.c d) k 0 [t.c 0, t.c 1, t.c 2])) (tbls (d.set k t)) := by
  refine CoP.sl List.length_set (.inl rfl) (fun h => h) fun i j hi hj => CoP.of_eq ?_
  unfold setEl
  by_cases h : i = k
  · rw [lf_set_eq h (by omega)]
    match j, hj with
    | 0, _ => simp [h]
    | 1, _ => simp [h]
    | 2, _ => simp [h]
  · rw [lf_set_ne h]
    simp [h]
theorem good45 : goodFn Tryz.prog 45 := ⟨Tryz.f45, Tryz.func45, by kernel_rfl, by kernel_rfl⟩
theorem c45 (d : DB) (c : Chg) (hd : dbV d) (hc : c.ok) : HPure Tryz.prog 45 [dbpc d, c.pc] (prOf [dbpc (appD d c), pI (appErr d c)]) := by
  refine hpure_of (nt := 137) Tryzok Tryz.func45 rfl rfl (Nat.le_of_ble_eq_true rfl) ?_
  have hdl := hd.1
  refine hw_seq ?_; refine hw_region (E := TryzE) Tryzok ?_; refine rm 0 rfl rfl rfl rfl rfl rfl ?_; refine rm 1 rfl rfl rfl rfl rfl rfl ?_; refine rm 2 rfl rfl rfl rfl rfl rfl ?_; refine rq rfl rfl rfl rfl rfl ?_; refine rg_nil ?_
  show HW _ _ _ _ _; (iterate 2 refine hw_seq ?_); refine hw_region (E := TryzE) Tryzok ?_; (iterate 3 refine rq rfl rfl rfl rfl rfl ?_); refine rg_nil ?_; show HW _ _ _ _ _; refine hw_cond _ rfl (fun r0 => ?_) (fun r0 => ?_)
  · skip
    have h0 := r0
    have h0 := of_decide_eq_true h0
    try simp only [Int.toNat_natCast] at h0
    (iterate 2 refine hw_seq ?_); refine hw_region (E := TryzE) Tryzok ?_; (iterate 6 refine rq rfl rfl rfl rfl rfl ?_); refine rg_nil ?_; show HW _ _ _ _ _; refine hw_cond _ rfl (fun r1 => ?_) (fun r1 => ?_)
    · skip
      have h1 := r1
      have h1 := of_decide_eq_false (not_t h1)
      try simp only [Int.toNat_natCast] at h1
      refine hw_seq ?_; refine hw_region (E := TryzE) Tryzok ?_; refine rq rfl rfl rfl rfl rfl ?_; refine rs rfl rfl rfl rfl rfl ?_; refine rq rfl rfl rfl rfl rfl ?_; refine rg_nil ?_; show HW _ _ _ _ _; refine hw_ret ?_
      refine ⟨.inr rfl, ?_⟩
      have he : appErr d c = 1 := aE1 (by assumption) (by assumption)
      rw [aD_err he (by first | assumption | omega | decide)]
      exact ⟨_, _, _, _, rfl, (by (repeat' apply And.intro) <;> first | trivial | exact Nat.le_of_ble_eq_true rfl | rfl), rfl, (by (repeat' apply And.intro) <;> first | trivial | exact Nat.le_of_ble_eq_true rfl | rfl), ⟨CoC.refl _, cci he.symm, trivial⟩⟩
    · skip
      have h1 := r1
      have h1 := of_decide_eq_true (not_f h1)
      try simp only [Int.toNat_natCast] at h1
      refine hw_skip ?_; show HW _ _ _ _ _; (iterate 2 refine hw_seq ?_); refine hw_region (E := TryzE) Tryzok ?_; (iterate 3 refine rq rfl rfl rfl rfl rfl ?_)
      refine rc rfl rfl rfl rfl rfl rfl good65 (c65 _ _) (CoL.refl _) rfl rfl ?_; refine rq rfl rfl rfl rfl rfl ?_; refine rg_nil ?_; show HW _ _ _ _ _; refine hw_seq ?_; refine hw_region (E := TryzE) Tryzok ?_
      (iterate 2 refine rq rfl rfl rfl rfl rfl ?_); refine rg_nil ?_; show HW _ _ _ _ _; refine hw_cond _ rfl (fun r2 => ?_) (fun r2 => ?_)
      · skip
        have h2 := r2
        have h2 := of_decide_eq_false (not_t h2)
        try simp only [Int.toNat_natCast] at h2
        refine hw_seq ?_; refine hw_region (E := TryzE) Tryzok ?_; (iterate 2 refine rq rfl rfl rfl rfl rfl ?_); refine rs rfl rfl rfl rfl rfl ?_; refine rq rfl rfl rfl rfl rfl ?_; refine rg_nil ?_; show HW _ _ _ _ _
        refine hw_ret ?_; refine ⟨.inr rfl, ?_⟩
        have he : appErr d c = crErr d c.table := aE2 (by assumption) (by assumption)
        rw [aD_err he (by first | assumption | omega | decide)]
        exact ⟨_, _, _, _, rfl, (by (repeat' apply And.intro) <;> first | trivial | exact Nat.le_of_ble_eq_true rfl | rfl), rfl, (by (repeat' apply And.intro) <;> first | trivial | exact Nat.le_of_ble_eq_true rfl | rfl), ⟨CoC.refl _, cci he.symm, trivial⟩⟩
      · skip
        have h2 := r2
        have h2 := of_decide_eq_true (not_f h2)
        try simp only [Int.toNat_natCast] at h2
        refine hw_skip ?_; show HW _ _ _ _ _; refine hw_seq ?_; refine hw_draw (E := TryzE) Tryzok Tryzmixed [0, 1, 2, 3, 4, 5, 6, 7, 8, 9, 10] ?_; (iterate 2 refine rq rfl rfl rfl rfl rfl ?_)
        refine rg_fcall rfl rfl rfl rfl rfl rfl good66 ((c66h d (by omega)).swap 0 100) (CoHCL.refl _) trivial rfl rfl ?_; (iterate 2 refine rq rfl rfl rfl rfl rfl ?_)
        refine rc rfl rfl rfl rfl rfl rfl good51 (c51 _ hc.1) (CoL.refl _) rfl rfl ?_; refine rm 3 rfl rfl rfl rfl rfl rfl ?_; refine ra 4 true rfl rfl rfl rfl rfl rfl ?_; refine rq rfl rfl rfl rfl rfl ?_
        refine rs rfl rfl rfl rfl rfl ?_; refine rq rfl rfl rfl rfl rfl ?_; refine rg_nil ?_; refine ⟨by kernel_rfl, ?_⟩; show HW _ _ _ _ _; refine hw_ret ?_; refine ⟨.inr rfl, ?_⟩
        have he : appErr d c = 0 := (aE2 (by assumption) (by assumption)).trans (by assumption)
        rw [aD1 he (by assumption)]
        exact ⟨_, _, _, _, rfl, (by (repeat' apply And.intro) <;> first | trivial | exact Nat.le_of_ble_eq_true rfl | rfl), rfl, (by (repeat' apply And.intro) <;> first | trivial | exact Nat.le_of_ble_eq_true rfl | rfl), ⟨CoC.agg ⟨co_appP rfl rfl (fun i j hi hj => CoP.refl _) (lt1b (lt3 (CoP.refl _) (CoP.refl _) (CoP.refl _))), trivial⟩, cci he.symm, trivial⟩⟩
  · skip
    have h0 := r0
    have h0 := of_decide_eq_false h0
    try simp only [Int.toNat_natCast] at h0
    refine hw_skip ?_; show HW _ _ _ _ _; (iterate 2 refine hw_seq ?_); refine hw_region (E := TryzE) Tryzok ?_; (iterate 4 refine rq rfl rfl rfl rfl rfl ?_); refine rsplit rfl rfl (fun r3 => ?_) (fun r3 => ?_)
    · skip
      have h3 := r3
      have h3 := of_decide_eq_true h3
      try simp only [Int.toNat_natCast] at h3
      (iterate 3 refine rk rfl rfl rfl (gtf r3) ?_); refine rq rfl rfl rfl rfl rfl ?_ (hp := r3); refine rg_nil ?_; show HW _ _ _ _ _; refine hw_cond _ rfl (fun _ => ?_) (fun e => by cases e); refine hw_seq ?_
      refine hw_region (E := TryzE) Tryzok ?_; refine rq rfl rfl rfl rfl rfl ?_; refine rs rfl rfl rfl rfl rfl ?_; refine rq rfl rfl rfl rfl rfl ?_; refine rg_nil ?_; show HW _ _ _ _ _; refine hw_ret ?_; refine ⟨.inr rfl, ?_⟩
      have he : appErr d c = 1 := aE3 (by omega)
      rw [aD_err he (by first | assumption | omega | decide)]
      exact ⟨_, _, _, _, rfl, (by (repeat' apply And.intro) <;> first | trivial | exact Nat.le_of_ble_eq_true rfl | rfl), rfl, (by (repeat' apply And.intro) <;> first | trivial | exact Nat.le_of_ble_eq_true rfl | rfl), ⟨CoC.refl _, cci he.symm, trivial⟩⟩
    · skip
      have h3 := r3
      have h3 := of_decide_eq_false h3
      try simp only [Int.toNat_natCast] at h3
      (iterate 3 refine rq rfl rfl rfl rfl (gff r3) ?_); refine rq rfl rfl rfl rfl rfl ?_; refine rg_nil ?_; show HW _ _ _ _ _; refine hw_cond _ rfl (fun r4 => ?_) (fun r4 => ?_)
      · skip
        have h4 := r4
        have h4 := bif_f r3 h4
        have h4 := of_decide_eq_true h4
        try simp only [Int.toNat_natCast] at h4
        refine hw_seq ?_; refine hw_region (E := TryzE) Tryzok ?_; refine rq rfl rfl rfl rfl rfl ?_; refine rs rfl rfl rfl rfl rfl ?_; refine rq rfl rfl rfl rfl rfl ?_; refine rg_nil ?_; show HW _ _ _ _ _; refine hw_ret ?_
        refine ⟨.inr rfl, ?_⟩
        have he : appErr d c = 1 := aE3 (by omega)
        rw [aD_err he (by first | assumption | omega | decide)]
        exact ⟨_, _, _, _, rfl, (by (repeat' apply And.intro) <;> first | trivial | exact Nat.le_of_ble_eq_true rfl | rfl), rfl, (by (repeat' apply And.intro) <;> first | trivial | exact Nat.le_of_ble_eq_true rfl | rfl), ⟨CoC.refl _, cci he.symm, trivial⟩⟩
      · skip
        have h4 := r4
        have h4 := bif_f r3 h4
        have h4 := of_decide_eq_false h4
        try simp only [Int.toNat_natCast] at h4
        refine hw_skip ?_; show HW _ _ _ _ _; refine hw_seq ?_; refine hw_region (E := TryzE) Tryzok ?_; (iterate 3 refine rq rfl rfl rfl rfl rfl ?_); refine rc rfl rfl rfl rfl rfl rfl good67 (c67 d c.name) (CoL.refl _) rfl rfl ?_
        refine rq rfl rfl rfl rfl rfl ?_; refine rg_nil ?_; show HW _ _ _ _ _; (iterate 2 refine hw_seq ?_); refine hw_region (E := TryzE) Tryzok ?_; (iterate 2 refine rq rfl rfl rfl rfl rfl ?_); refine rg_nil ?_; show HW _ _ _ _ _
        refine hw_cond _ rfl (fun r5 => ?_) (fun r5 => ?_)
        · skip
          have h5 := r5
          have h5 := of_decide_eq_true h5
          try simp only [Int.toNat_natCast] at h5
          refine hw_seq ?_; refine hw_region (E := TryzE) Tryzok ?_; refine rq rfl rfl rfl rfl rfl ?_; refine rs rfl rfl rfl rfl rfl ?_; refine rq rfl rfl rfl rfl rfl ?_; refine rg_nil ?_; show HW _ _ _ _ _; refine hw_ret ?_
          refine ⟨.inr rfl, ?_⟩
          have he : appErr d c = 4 := aE4 (by omega) (by assumption)
          rw [aD_err he (by first | assumption | omega | decide)]
          exact ⟨_, _, _, _, rfl, (by (repeat' apply And.intro) <;> first | trivial | exact Nat.le_of_ble_eq_true rfl | rfl), rfl, (by (repeat' apply And.intro) <;> first | trivial | exact Nat.le_of_ble_eq_true rfl | rfl), ⟨CoC.refl _, cci he.symm, trivial⟩⟩
        · skip
          have h5 := r5
          have h5 := of_decide_eq_false h5
          try simp only [Int.toNat_natCast] at h5
          have hix := h5
          have htb := tbl_at h5
          have hT : TOk (tblAt d c.name) := hd.at h5
          refine hw_skip ?_; show HW _ _ _ _ _; refine hw_seq ?_; refine hw_region (E := TryzE) Tryzok ?_; (iterate 5 refine rq rfl rfl rfl rfl rfl ?_); refine rm 5 rfl rfl rfl rfl rfl rfl ?_; refine rs rfl rfl rfl rfl rfl ?_
          refine rg_nil ?_; show HW _ _ _ _ _; (iterate 2 refine hw_seq ?_); refine hw_region (E := TryzE) Tryzok ?_; (iterate 3 refine rq rfl rfl rfl rfl rfl ?_); refine rg_nil ?_; show HW _ _ _ _ _
          refine hw_cond _ rfl (fun r6 => ?_) (fun r6 => ?_)
          · skip
            have h6 := r6
            have h6 := of_decide_eq_false (not_t h6)
            try simp only [Int.toNat_natCast] at h6
            refine hw_seq ?_; refine hw_region (E := TryzE) Tryzok ?_; (iterate 4 refine rq rfl rfl rfl rfl rfl ?_); refine rc rfl rfl rfl rfl rfl rfl good68 (c68 (tblAt d c.name) c.row.id) (CoL.refl _) rfl rfl ?_
            (iterate 5 refine rq rfl rfl rfl rfl rfl ?_); refine rg_nil ?_; show HW _ _ _ _ _; (iterate 2 refine hw_seq ?_); refine hw_region (E := TryzE) Tryzok ?_; (iterate 2 refine rq rfl rfl rfl rfl rfl ?_); refine rg_nil ?_
            show HW _ _ _ _ _; refine hw_cond _ rfl (fun r7 => ?_) (fun r7 => ?_)
            · skip
              have h7 := r7
              have h7 := not_t h7
              have hfd : ¬ 0 ≤ rowIx (tblAt d c.name).rows c.row.id := of_decide_eq_false h7
              refine hw_seq ?_; refine hw_region (E := TryzE) Tryzok ?_; refine rq rfl rfl rfl rfl rfl ?_; refine rs rfl rfl rfl rfl rfl ?_; refine rq rfl rfl rfl rfl rfl ?_; refine rg_nil ?_; show HW _ _ _ _ _; refine hw_ret ?_
              refine ⟨.inr rfl, ?_⟩
              have he : appErr d c = 4 := (aE5 (by omega) hix).trans (cE4 (by assumption) hfd)
              rw [aD_err he (by first | assumption | omega | decide)]
              exact ⟨_, _, _, _, rfl, (by (repeat' apply And.intro) <;> first | trivial | exact Nat.le_of_ble_eq_true rfl | rfl), rfl, (by (repeat' apply And.intro) <;> first | trivial | exact Nat.le_of_ble_eq_true rfl | rfl), ⟨CoC.refl _, cci he.symm, trivial⟩⟩
            · skip
              have h7 := r7
              have h7 := not_f h7
              have hfd : 0 ≤ rowIx (tblAt d c.name).rows c.row.id := of_decide_eq_true h7
              have hra2 : max (rowIx (tblAt d c.name).rows c.row.id) 0 < ((d.getD (tblIx d c.name).toNat default).rows.length : Int) := (by have := row_at hfd; show _ < ((tblAt d c.name).rows.length : Int); omega)
              refine hw_skip ?_; show HW _ _ _ _ _; refine hw_seq ?_; refine hw_draw (E := TryzE) Tryzok Tryzmixed [0, 1, 2, 3, 4, 5, 6, 7, 8, 9, 10] ?_; (iterate 9 refine rq rfl rfl rfl rfl rfl ?_)
              refine rc rfl rfl rfl rfl rfl rfl good69 (c69 _ _) (CoL.refl _) rfl rfl ?_; refine rq rfl rfl rfl rfl rfl ?_; refine rg_nil ?_; refine ⟨by kernel_rfl, ?_⟩; show HW _ _ _ _ _
              refine hw_cond _ rfl (fun r8 => ?_) (fun r8 => ?_)
              · skip
                have h8 := r8
                have h8 := not_t h8
                have hval : ¬ _ := of_decide_eq_false h8
                refine hw_seq ?_; refine hw_region (E := TryzE) Tryzok ?_; refine rq rfl rfl rfl rfl rfl ?_; refine rs rfl rfl rfl rfl rfl ?_; refine rq rfl rfl rfl rfl rfl ?_; refine rg_nil ?_; show HW _ _ _ _ _; refine hw_ret ?_
                refine ⟨.inr rfl, ?_⟩
                have he : appErr d c = 16 := (aE5 (by omega) hix).trans (cE16 (by assumption) hfd hval)
                rw [aD_err he (by first | assumption | omega | decide)]
                exact ⟨_, _, _, _, rfl, (by (repeat' apply And.intro) <;> first | trivial | exact Nat.le_of_ble_eq_true rfl | rfl), rfl, (by (repeat' apply And.intro) <;> first | trivial | exact Nat.le_of_ble_eq_true rfl | rfl), ⟨CoC.refl _, cci he.symm, trivial⟩⟩
              · skip
                have h8 := r8
                have h8 := not_f h8
                have hval := of_decide_eq_true h8
                refine hw_skip ?_; show HW _ _ _ _ _; refine hw_seq ?_; refine hw_region (E := TryzE) Tryzok ?_; refine rq rfl rfl rfl rfl rfl ?_; refine rg_nil ?_; show HW _ _ _ _ _; (iterate 2 refine hw_seq ?_)
                refine hw_region (E := TryzE) Tryzok ?_; (iterate 2 refine rq rfl rfl rfl rfl rfl ?_); refine rg_nil ?_; show HW _ _ _ _ _; refine hw_block ?_; refine hw_seq ?_; refine hw_region (E := TryzE) Tryzok ?_
                (iterate 2 refine rq rfl rfl rfl rfl rfl ?_); refine rg_nil ?_; show HW _ _ _ _ _; refine hw_cond _ rfl (fun r9 => ?_) (fun r9 => ?_)
                · skip
                  have h9 := r9
                  have h9 := of_decide_eq_true h9
                  try simp only [Int.toNat_natCast] at h9
                  refine hw_region (E := TryzE) Tryzok ?_; (iterate 3 refine rq rfl rfl rfl rfl rfl ?_); refine rc rfl rfl rfl rfl rfl rfl good70 (c70 (tblAt d c.name) c.row) (CoL.refl _) rfl rfl ?_
                  (iterate 3 refine rq rfl rfl rfl rfl rfl ?_); refine rs rfl rfl rfl rfl rfl ?_; refine rq rfl rfl rfl rfl rfl ?_; refine rg_nil ?_; show HW _ _ _ _ _; (iterate 2 refine hw_seq ?_)
                  refine hw_region (E := TryzE) Tryzok ?_; (iterate 2 refine rq rfl rfl rfl rfl rfl ?_); refine rg_nil ?_; show HW _ _ _ _ _; refine hw_cond _ rfl (fun r10 => ?_) (fun r10 => ?_)
                  · skip
                    have h10 := r10
                    have h10 := of_decide_eq_false (not_t h10)
                    try simp only [Int.toNat_natCast] at h10
                    refine hw_seq ?_; refine hw_region (E := TryzE) Tryzok ?_; (iterate 2 refine rq rfl rfl rfl rfl rfl ?_); refine rs rfl rfl rfl rfl rfl ?_; refine rq rfl rfl rfl rfl rfl ?_; refine rg_nil ?_; show HW _ _ _ _ _
                    refine hw_ret ?_; refine ⟨.inr rfl, ?_⟩
                    first | (exfalso; omega) | (have he : appErr d c = insErr (tblAt d c.name) c.row := (aE5 (by omega) hix).trans (cE2 (by omega)); rw [aD_err he (by assumption)]; exact ⟨_, _, _, _, rfl, (by (repeat' apply And.intro) <;> first | trivial | exact Nat.le_of_ble_eq_true rfl | rfl), rfl, (by (repeat' apply And.intro) <;> first | trivial | exact Nat.le_of_ble_eq_true rfl | rfl), ⟨CoC.refl _, cci he.symm, trivial⟩⟩) | (have he : appErr d c = delErr (tblAt d c.name) c.row.id := (aE5 (by omega) hix).trans (cE3 (by omega) hfd hval); rw [aD_err he (by assumption)]; exact ⟨_, _, _, _, rfl, (by (repeat' apply And.intro) <;> first | trivial | exact Nat.le_of_ble_eq_true rfl | rfl), rfl, (by (repeat' apply And.intro) <;> first | trivial | exact Nat.le_of_ble_eq_true rfl | rfl), ⟨CoC.refl _, cci he.symm, trivial⟩⟩) | (have he : appErr d c = chErr (tblAt d c.name) c.row.id c.attr c.value := (aE5 (by omega) hix).trans (cEc (by omega) (by omega) hfd hval); rw [aD_err he (by assumption)]; exact ⟨_, _, _, _, rfl, (by (repeat' apply And.intro) <;> first | trivial | exact Nat.le_of_ble_eq_true rfl | rfl), rfl, (by (repeat' apply And.intro) <;> first | trivial | exact Nat.le_of_ble_eq_true rfl | rfl), ⟨CoC.refl _, cci he.symm, trivial⟩⟩)
                  · skip
                    have h10 := r10
                    have h10 := of_decide_eq_true (not_f h10)
                    try simp only [Int.toNat_natCast] at h10
                    refine hw_skip ?_; show HW _ _ _ _ _; refine hw_seq ?_; refine hw_region (E := TryzE) Tryzok ?_; (iterate 2 refine rq rfl rfl rfl rfl rfl ?_)
                    refine rg_fcall rfl rfl rfl rfl rfl rfl good66 ((c66h d (by omega)).swap 0 100) (CoHCL.refl _) trivial rfl rfl ?_; refine rq rfl rfl rfl rfl rfl ?_; refine rm 6 rfl rfl rfl rfl rfl rfl ?_
                    refine rs rfl rfl rfl rfl rfl ?_; refine rg_nil ?_; show HW _ _ _ _ _; refine hw_seq ?_; refine hw_region (E := TryzE) Tryzok ?_; (iterate 5 refine rq rfl rfl rfl rfl rfl ?_); refine rs rfl rfl rfl rfl rfl ?_
                    refine rg_nil ?_; show HW _ _ _ _ _; refine hw_seq ?_; refine hw_region (E := TryzE) Tryzok ?_; refine rq rfl rfl rfl rfl rfl ?_; refine rs rfl rfl rfl rfl rfl ?_; refine rq rfl rfl rfl rfl rfl ?_
                    refine rg_nil ?_; show HW _ _ _ _ _; refine hw_ret ?_; refine ⟨.inr rfl, ?_⟩
                    first | (exfalso; omega) | (have he : appErr d c = 0 := ((aE5 (by omega) hix).trans (cE2 (by omega))).trans (by assumption); rw [aD2 he (by omega) (cT2 (by omega))]; exact ⟨_, _, _, _, rfl, (by (repeat' apply And.intro) <;> first | trivial | exact Nat.le_of_ble_eq_true rfl | rfl), rfl, (by (repeat' apply And.intro) <;> first | trivial | exact Nat.le_of_ble_eq_true rfl | rfl), ⟨CoC.agg ⟨set_co htb, trivial⟩, cci he.symm, trivial⟩⟩) | (have he : appErr d c = 0 := ((aE5 (by omega) hix).trans (cE3 (by omega) hfd hval)).trans (by assumption); rw [aD2 he (by omega) (cT3 (by omega))]; exact ⟨_, _, _, _, rfl, (by (repeat' apply And.intro) <;> first | trivial | exact Nat.le_of_ble_eq_true rfl | rfl), rfl, (by (repeat' apply And.intro) <;> first | trivial | exact Nat.le_of_ble_eq_true rfl | rfl), ⟨CoC.agg ⟨set_co htb, trivial⟩, cci he.symm, trivial⟩⟩) | (have he : appErr d c = 0 := ((aE5 (by omega) hix).trans (cEc (by omega) (by omega) hfd hval)).trans (by assumption); rw [aD2 he (by omega) (cT4 (by omega) (by omega))]; exact ⟨_, _, _, _, rfl, (by (repeat' apply And.intro) <;> first | trivial | exact Nat.le_of_ble_eq_true rfl | rfl), rfl, (by (repeat' apply And.intro) <;> first | trivial | exact Nat.le_of_ble_eq_true rfl | rfl), ⟨CoC.agg ⟨set_co htb, trivial⟩, cci he.symm, trivial⟩⟩)
                · skip
                  have h9 := r9
                  have h9 := of_decide_eq_false h9
                  try simp only [Int.toNat_natCast] at h9
                  refine hw_seq ?_; refine hw_region (E := TryzE) Tryzok ?_; (iterate 2 refine rq rfl rfl rfl rfl rfl ?_); refine rg_nil ?_; show HW _ _ _ _ _; refine hw_cond _ rfl (fun r11 => ?_) (fun r11 => ?_)
                  · skip
                    have h11 := r11
                    have h11 := of_decide_eq_true h11
                    try simp only [Int.toNat_natCast] at h11
                    refine hw_region (E := TryzE) Tryzok ?_; (iterate 4 refine rq rfl rfl rfl rfl rfl ?_); refine rc rfl rfl rfl rfl rfl rfl good71 (c71 (tblAt d c.name) c.row.id) (CoL.refl _) rfl rfl ?_
                    (iterate 3 refine rq rfl rfl rfl rfl rfl ?_); refine rs rfl rfl rfl rfl rfl ?_; refine rq rfl rfl rfl rfl rfl ?_; refine rg_nil ?_; show HW _ _ _ _ _; (iterate 2 refine hw_seq ?_)
                    refine hw_region (E := TryzE) Tryzok ?_; (iterate 2 refine rq rfl rfl rfl rfl rfl ?_); refine rg_nil ?_; show HW _ _ _ _ _; refine hw_cond _ rfl (fun r12 => ?_) (fun r12 => ?_)
                    · skip
                      have h12 := r12
                      have h12 := of_decide_eq_false (not_t h12)
                      try simp only [Int.toNat_natCast] at h12
                      refine hw_seq ?_; refine hw_region (E := TryzE) Tryzok ?_; (iterate 2 refine rq rfl rfl rfl rfl rfl ?_); refine rs rfl rfl rfl rfl rfl ?_; refine rq rfl rfl rfl rfl rfl ?_; refine rg_nil ?_; show HW _ _ _ _ _
                      refine hw_ret ?_; refine ⟨.inr rfl, ?_⟩
                      first | (exfalso; omega) | (have he : appErr d c = insErr (tblAt d c.name) c.row := (aE5 (by omega) hix).trans (cE2 (by omega)); rw [aD_err he (by assumption)]; exact ⟨_, _, _, _, rfl, (by (repeat' apply And.intro) <;> first | trivial | exact Nat.le_of_ble_eq_true rfl | rfl), rfl, (by (repeat' apply And.intro) <;> first | trivial | exact Nat.le_of_ble_eq_true rfl | rfl), ⟨CoC.refl _, cci he.symm, trivial⟩⟩) | (have he : appErr d c = delErr (tblAt d c.name) c.row.id := (aE5 (by omega) hix).trans (cE3 (by omega) hfd hval); rw [aD_err he (by assumption)]; exact ⟨_, _, _, _, rfl, (by (repeat' apply And.intro) <;> first | trivial | exact Nat.le_of_ble_eq_true rfl | rfl), rfl, (by (repeat' apply And.intro) <;> first | trivial | exact Nat.le_of_ble_eq_true rfl | rfl), ⟨CoC.refl _, cci he.symm, trivial⟩⟩) | (have he : appErr d c = chErr (tblAt d c.name) c.row.id c.attr c.value := (aE5 (by omega) hix).trans (cEc (by omega) (by omega) hfd hval); rw [aD_err he (by assumption)]; exact ⟨_, _, _, _, rfl, (by (repeat' apply And.intro) <;> first | trivial | exact Nat.le_of_ble_eq_true rfl | rfl), rfl, (by (repeat' apply And.intro) <;> first | trivial | exact Nat.le_of_ble_eq_true rfl | rfl), ⟨CoC.refl _, cci he.symm, trivial⟩⟩)
                    · skip
                      have h12 := r12
                      have h12 := of_decide_eq_true (not_f h12)
                      try simp only [Int.toNat_natCast] at h12
                      refine hw_skip ?_; show HW _ _ _ _ _; refine hw_seq ?_; refine hw_region (E := TryzE) Tryzok ?_; (iterate 2 refine rq rfl rfl rfl rfl rfl ?_)
                      refine rg_fcall rfl rfl rfl rfl rfl rfl good66 ((c66h d (by omega)).swap 0 100) (CoHCL.refl _) trivial rfl rfl ?_; refine rq rfl rfl rfl rfl rfl ?_; refine rm 7 rfl rfl rfl rfl rfl rfl ?_
                      refine rs rfl rfl rfl rfl rfl ?_; refine rg_nil ?_; show HW _ _ _ _ _; refine hw_seq ?_; refine hw_region (E := TryzE) Tryzok ?_; (iterate 5 refine rq rfl rfl rfl rfl rfl ?_); refine rs rfl rfl rfl rfl rfl ?_
                      refine rg_nil ?_; show HW _ _ _ _ _; refine hw_seq ?_; refine hw_region (E := TryzE) Tryzok ?_; refine rq rfl rfl rfl rfl rfl ?_; refine rs rfl rfl rfl rfl rfl ?_; refine rq rfl rfl rfl rfl rfl ?_
                      refine rg_nil ?_; show HW _ _ _ _ _; refine hw_ret ?_; refine ⟨.inr rfl, ?_⟩
                      first | (exfalso; omega) | (have he : appErr d c = 0 := ((aE5 (by omega) hix).trans (cE2 (by omega))).trans (by assumption); rw [aD2 he (by omega) (cT2 (by omega))]; exact ⟨_, _, _, _, rfl, (by (repeat' apply And.intro) <;> first | trivial | exact Nat.le_of_ble_eq_true rfl | rfl), rfl, (by (repeat' apply And.intro) <;> first | trivial | exact Nat.le_of_ble_eq_true rfl | rfl), ⟨CoC.agg ⟨set_co htb, trivial⟩, cci he.symm, trivial⟩⟩) | (have he : appErr d c = 0 := ((aE5 (by omega) hix).trans (cE3 (by omega) hfd hval)).trans (by assumption); rw [aD2 he (by omega) (cT3 (by omega))]; exact ⟨_, _, _, _, rfl, (by (repeat' apply And.intro) <;> first | trivial | exact Nat.le_of_ble_eq_true rfl | rfl), rfl, (by (repeat' apply And.intro) <;> first | trivial | exact Nat.le_of_ble_eq_true rfl | rfl), ⟨CoC.agg ⟨set_co htb, trivial⟩, cci he.symm, trivial⟩⟩) | (have he : appErr d c = 0 := ((aE5 (by omega) hix).trans (cEc (by omega) (by omega) hfd hval)).trans (by assumption); rw [aD2 he (by omega) (cT4 (by omega) (by omega))]; exact ⟨_, _, _, _, rfl, (by (repeat' apply And.intro) <;> first | trivial | exact Nat.le_of_ble_eq_true rfl | rfl), rfl, (by (repeat' apply And.intro) <;> first | trivial | exact Nat.le_of_ble_eq_true rfl | rfl), ⟨CoC.agg ⟨set_co htb, trivial⟩, cci he.symm, trivial⟩⟩)
                  · skip
                    have h11 := r11
                    have h11 := of_decide_eq_false h11
                    try simp only [Int.toNat_natCast] at h11
                    refine hw_seq ?_; refine hw_region (E := TryzE) Tryzok ?_; (iterate 2 refine rq rfl rfl rfl rfl rfl ?_); refine rg_nil ?_; show HW _ _ _ _ _; refine hw_cond _ rfl (fun r13 => ?_) (fun r13 => ?_)
                    · skip
                      have h13 := r13
                      have h13 := of_decide_eq_true h13
                      try simp only [Int.toNat_natCast] at h13
                      refine hw_region (E := TryzE) Tryzok ?_; (iterate 9 refine rq rfl rfl rfl rfl rfl ?_); refine rc rfl rfl rfl rfl rfl rfl good72 (c72 (tblAt d c.name) c.row.id c.attr c.value) (CoL.refl _) rfl rfl ?_
                      (iterate 3 refine rq rfl rfl rfl rfl rfl ?_); refine rs rfl rfl rfl rfl rfl ?_; refine rq rfl rfl rfl rfl rfl ?_; refine rg_nil ?_; show HW _ _ _ _ _; (iterate 2 refine hw_seq ?_)
                      refine hw_region (E := TryzE) Tryzok ?_; (iterate 2 refine rq rfl rfl rfl rfl rfl ?_); refine rg_nil ?_; show HW _ _ _ _ _; refine hw_cond _ rfl (fun r14 => ?_) (fun r14 => ?_)
                      · skip
                        have h14 := r14
                        have h14 := of_decide_eq_false (not_t h14)
                        try simp only [Int.toNat_natCast] at h14
                        refine hw_seq ?_; refine hw_region (E := TryzE) Tryzok ?_; (iterate 2 refine rq rfl rfl rfl rfl rfl ?_); refine rs rfl rfl rfl rfl rfl ?_; refine rq rfl rfl rfl rfl rfl ?_; refine rg_nil ?_; show HW _ _ _ _ _
                        refine hw_ret ?_; refine ⟨.inr rfl, ?_⟩
                        first | (exfalso; omega) | (have he : appErr d c = insErr (tblAt d c.name) c.row := (aE5 (by omega) hix).trans (cE2 (by omega)); rw [aD_err he (by assumption)]; exact ⟨_, _, _, _, rfl, (by (repeat' apply And.intro) <;> first | trivial | exact Nat.le_of_ble_eq_true rfl | rfl), rfl, (by (repeat' apply And.intro) <;> first | trivial | exact Nat.le_of_ble_eq_true rfl | rfl), ⟨CoC.refl _, cci he.symm, trivial⟩⟩) | (have he : appErr d c = delErr (tblAt d c.name) c.row.id := (aE5 (by omega) hix).trans (cE3 (by omega) hfd hval); rw [aD_err he (by assumption)]; exact ⟨_, _, _, _, rfl, (by (repeat' apply And.intro) <;> first | trivial | exact Nat.le_of_ble_eq_true rfl | rfl), rfl, (by (repeat' apply And.intro) <;> first | trivial | exact Nat.le_of_ble_eq_true rfl | rfl), ⟨CoC.refl _, cci he.symm, trivial⟩⟩) | (have he : appErr d c = chErr (tblAt d c.name) c.row.id c.attr c.value := (aE5 (by omega) hix).trans (cEc (by omega) (by omega) hfd hval); rw [aD_err he (by assumption)]; exact ⟨_, _, _, _, rfl, (by (repeat' apply And.intro) <;> first | trivial | exact Nat.le_of_ble_eq_true rfl | rfl), rfl, (by (repeat' apply And.intro) <;> first | trivial | exact Nat.le_of_ble_eq_true rfl | rfl), ⟨CoC.refl _, cci he.symm, trivial⟩⟩)
                      · skip
                        have h14 := r14
                        have h14 := of_decide_eq_true (not_f h14)
                        try simp only [Int.toNat_natCast] at h14
                        refine hw_skip ?_; show HW _ _ _ _ _; refine hw_seq ?_; refine hw_region (E := TryzE) Tryzok ?_; (iterate 2 refine rq rfl rfl rfl rfl rfl ?_)
                        refine rg_fcall rfl rfl rfl rfl rfl rfl good66 ((c66h d (by omega)).swap 0 100) (CoHCL.refl _) trivial rfl rfl ?_; refine rq rfl rfl rfl rfl rfl ?_; refine rm 8 rfl rfl rfl rfl rfl rfl ?_
                        refine rs rfl rfl rfl rfl rfl ?_; refine rg_nil ?_; show HW _ _ _ _ _; refine hw_seq ?_; refine hw_region (E := TryzE) Tryzok ?_; (iterate 5 refine rq rfl rfl rfl rfl rfl ?_); refine rs rfl rfl rfl rfl rfl ?_
                        refine rg_nil ?_; show HW _ _ _ _ _; refine hw_seq ?_; refine hw_region (E := TryzE) Tryzok ?_; refine rq rfl rfl rfl rfl rfl ?_; refine rs rfl rfl rfl rfl rfl ?_; refine rq rfl rfl rfl rfl rfl ?_
                        refine rg_nil ?_; show HW _ _ _ _ _; refine hw_ret ?_; refine ⟨.inr rfl, ?_⟩
                        first | (exfalso; omega) | (have he : appErr d c = 0 := ((aE5 (by omega) hix).trans (cE2 (by omega))).trans (by assumption); rw [aD2 he (by omega) (cT2 (by omega))]; exact ⟨_, _, _, _, rfl, (by (repeat' apply And.intro) <;> first | trivial | exact Nat.le_of_ble_eq_true rfl | rfl), rfl, (by (repeat' apply And.intro) <;> first | trivial | exact Nat.le_of_ble_eq_true rfl | rfl), ⟨CoC.agg ⟨set_co htb, trivial⟩, cci he.symm, trivial⟩⟩) | (have he : appErr d c = 0 := ((aE5 (by omega) hix).trans (cE3 (by omega) hfd hval)).trans (by assumption); rw [aD2 he (by omega) (cT3 (by omega))]; exact ⟨_, _, _, _, rfl, (by (repeat' apply And.intro) <;> first | trivial | exact Nat.le_of_ble_eq_true rfl | rfl), rfl, (by (repeat' apply And.intro) <;> first | trivial | exact Nat.le_of_ble_eq_true rfl | rfl), ⟨CoC.agg ⟨set_co htb, trivial⟩, cci he.symm, trivial⟩⟩) | (have he : appErr d c = 0 := ((aE5 (by omega) hix).trans (cEc (by omega) (by omega) hfd hval)).trans (by assumption); rw [aD2 he (by omega) (cT4 (by omega) (by omega))]; exact ⟨_, _, _, _, rfl, (by (repeat' apply And.intro) <;> first | trivial | exact Nat.le_of_ble_eq_true rfl | rfl), rfl, (by (repeat' apply And.intro) <;> first | trivial | exact Nat.le_of_ble_eq_true rfl | rfl), ⟨CoC.agg ⟨set_co htb, trivial⟩, cci he.symm, trivial⟩⟩)
                    · skip
                      have h13 := r13
                      have h13 := of_decide_eq_false h13
                      try simp only [Int.toNat_natCast] at h13
                      exfalso
                      omega
          · skip
            have h6 := r6
            have h6 := of_decide_eq_true (not_f h6)
            try simp only [Int.toNat_natCast] at h6
            refine hw_skip ?_; show HW _ _ _ _ _; refine hw_seq ?_; refine hw_region (E := TryzE) Tryzok ?_; refine rq rfl rfl rfl rfl rfl ?_; refine rg_nil ?_; show HW _ _ _ _ _; (iterate 2 refine hw_seq ?_)
            refine hw_region (E := TryzE) Tryzok ?_; (iterate 2 refine rq rfl rfl rfl rfl rfl ?_); refine rg_nil ?_; show HW _ _ _ _ _; refine hw_block ?_; refine hw_seq ?_; refine hw_region (E := TryzE) Tryzok ?_
            (iterate 2 refine rq rfl rfl rfl rfl rfl ?_); refine rg_nil ?_; show HW _ _ _ _ _; refine hw_cond _ rfl (fun r15 => ?_) (fun r15 => ?_)
            · skip
              have h15 := r15
              have h15 := of_decide_eq_true h15
              try simp only [Int.toNat_natCast] at h15
              refine hw_region (E := TryzE) Tryzok ?_; (iterate 3 refine rq rfl rfl rfl rfl rfl ?_); refine rc rfl rfl rfl rfl rfl rfl good70 (c70 (tblAt d c.name) c.row) (CoL.refl _) rfl rfl ?_
              (iterate 3 refine rq rfl rfl rfl rfl rfl ?_); refine rs rfl rfl rfl rfl rfl ?_; refine rq rfl rfl rfl rfl rfl ?_; refine rg_nil ?_; show HW _ _ _ _ _; (iterate 2 refine hw_seq ?_)
              refine hw_region (E := TryzE) Tryzok ?_; (iterate 2 refine rq rfl rfl rfl rfl rfl ?_); refine rg_nil ?_; show HW _ _ _ _ _; refine hw_cond _ rfl (fun r16 => ?_) (fun r16 => ?_)
              · skip
                have h16 := r16
                have h16 := of_decide_eq_false (not_t h16)
                try simp only [Int.toNat_natCast] at h16
                refine hw_seq ?_; refine hw_region (E := TryzE) Tryzok ?_; (iterate 2 refine rq rfl rfl rfl rfl rfl ?_); refine rs rfl rfl rfl rfl rfl ?_; refine rq rfl rfl rfl rfl rfl ?_; refine rg_nil ?_; show HW _ _ _ _ _
                refine hw_ret ?_; refine ⟨.inr rfl, ?_⟩
                first | (exfalso; omega) | (have he : appErr d c = insErr (tblAt d c.name) c.row := (aE5 (by omega) hix).trans (cE2 (by omega)); rw [aD_err he (by assumption)]; exact ⟨_, _, _, _, rfl, (by (repeat' apply And.intro) <;> first | trivial | exact Nat.le_of_ble_eq_true rfl | rfl), rfl, (by (repeat' apply And.intro) <;> first | trivial | exact Nat.le_of_ble_eq_true rfl | rfl), ⟨CoC.refl _, cci he.symm, trivial⟩⟩) | (have he : appErr d c = delErr (tblAt d c.name) c.row.id := (aE5 (by omega) hix).trans (cE3 (by omega) hfd hval); rw [aD_err he (by assumption)]; exact ⟨_, _, _, _, rfl, (by (repeat' apply And.intro) <;> first | trivial | exact Nat.le_of_ble_eq_true rfl | rfl), rfl, (by (repeat' apply And.intro) <;> first | trivial | exact Nat.le_of_ble_eq_true rfl | rfl), ⟨CoC.refl _, cci he.symm, trivial⟩⟩) | (have he : appErr d c = chErr (tblAt d c.name) c.row.id c.attr c.value := (aE5 (by omega) hix).trans (cEc (by omega) (by omega) hfd hval); rw [aD_err he (by assumption)]; exact ⟨_, _, _, _, rfl, (by (repeat' apply And.intro) <;> first | trivial | exact Nat.le_of_ble_eq_true rfl | rfl), rfl, (by (repeat' apply And.intro) <;> first | trivial | exact Nat.le_of_ble_eq_true rfl | rfl), ⟨CoC.refl _, cci he.symm, trivial⟩⟩)
              · skip
                have h16 := r16
                have h16 := of_decide_eq_true (not_f h16)
                try simp only [Int.toNat_natCast] at h16
                refine hw_skip ?_; show HW _ _ _ _ _; refine hw_seq ?_; refine hw_region (E := TryzE) Tryzok ?_; (iterate 2 refine rq rfl rfl rfl rfl rfl ?_)
                refine rg_fcall rfl rfl rfl rfl rfl rfl good66 ((c66h d (by omega)).swap 0 100) (CoHCL.refl _) trivial rfl rfl ?_; refine rq rfl rfl rfl rfl rfl ?_; refine rm 9 rfl rfl rfl rfl rfl rfl ?_
                refine rs rfl rfl rfl rfl rfl ?_; refine rg_nil ?_; show HW _ _ _ _ _; refine hw_seq ?_; refine hw_region (E := TryzE) Tryzok ?_; (iterate 5 refine rq rfl rfl rfl rfl rfl ?_); refine rs rfl rfl rfl rfl rfl ?_
                refine rg_nil ?_; show HW _ _ _ _ _; refine hw_seq ?_; refine hw_region (E := TryzE) Tryzok ?_; refine rq rfl rfl rfl rfl rfl ?_; refine rs rfl rfl rfl rfl rfl ?_; refine rq rfl rfl rfl rfl rfl ?_; refine rg_nil ?_
                show HW _ _ _ _ _; refine hw_ret ?_; refine ⟨.inr rfl, ?_⟩
                first | (exfalso; omega) | (have he : appErr d c = 0 := ((aE5 (by omega) hix).trans (cE2 (by omega))).trans (by assumption); rw [aD2 he (by omega) (cT2 (by omega))]; exact ⟨_, _, _, _, rfl, (by (repeat' apply And.intro) <;> first | trivial | exact Nat.le_of_ble_eq_true rfl | rfl), rfl, (by (repeat' apply And.intro) <;> first | trivial | exact Nat.le_of_ble_eq_true rfl | rfl), ⟨CoC.agg ⟨set_co htb, trivial⟩, cci he.symm, trivial⟩⟩) | (have he : appErr d c = 0 := ((aE5 (by omega) hix).trans (cE3 (by omega) hfd hval)).trans (by assumption); rw [aD2 he (by omega) (cT3 (by omega))]; exact ⟨_, _, _, _, rfl, (by (repeat' apply And.intro) <;> first | trivial | exact Nat.le_of_ble_eq_true rfl | rfl), rfl, (by (repeat' apply And.intro) <;> first | trivial | exact Nat.le_of_ble_eq_true rfl | rfl), ⟨CoC.agg ⟨set_co htb, trivial⟩, cci he.symm, trivial⟩⟩) | (have he : appErr d c = 0 := ((aE5 (by omega) hix).trans (cEc (by omega) (by omega) hfd hval)).trans (by assumption); rw [aD2 he (by omega) (cT4 (by omega) (by omega))]; exact ⟨_, _, _, _, rfl, (by (repeat' apply And.intro) <;> first | trivial | exact Nat.le_of_ble_eq_true rfl | rfl), rfl, (by (repeat' apply And.intro) <;> first | trivial | exact Nat.le_of_ble_eq_true rfl | rfl), ⟨CoC.agg ⟨set_co htb, trivial⟩, cci he.symm, trivial⟩⟩)
            · skip
              have h15 := r15
              have h15 := of_decide_eq_false h15
              try simp only [Int.toNat_natCast] at h15
              refine hw_seq ?_; refine hw_region (E := TryzE) Tryzok ?_; (iterate 2 refine rq rfl rfl rfl rfl rfl ?_); refine rg_nil ?_; show HW _ _ _ _ _; refine hw_cond _ rfl (fun r17 => ?_) (fun r17 => ?_)
              · skip
                have h17 := r17
                have h17 := of_decide_eq_true h17
                try simp only [Int.toNat_natCast] at h17
                refine hw_region (E := TryzE) Tryzok ?_; (iterate 4 refine rq rfl rfl rfl rfl rfl ?_); refine rc rfl rfl rfl rfl rfl rfl good71 (c71 (tblAt d c.name) c.row.id) (CoL.refl _) rfl rfl ?_
                (iterate 3 refine rq rfl rfl rfl rfl rfl ?_); refine rs rfl rfl rfl rfl rfl ?_; refine rq rfl rfl rfl rfl rfl ?_; refine rg_nil ?_; show HW _ _ _ _ _; (iterate 2 refine hw_seq ?_)
                refine hw_region (E := TryzE) Tryzok ?_; (iterate 2 refine rq rfl rfl rfl rfl rfl ?_); refine rg_nil ?_; show HW _ _ _ _ _; refine hw_cond _ rfl (fun r18 => ?_) (fun r18 => ?_)
                · skip
                  have h18 := r18
                  have h18 := of_decide_eq_false (not_t h18)
                  try simp only [Int.toNat_natCast] at h18
                  refine hw_seq ?_; refine hw_region (E := TryzE) Tryzok ?_; (iterate 2 refine rq rfl rfl rfl rfl rfl ?_); refine rs rfl rfl rfl rfl rfl ?_; refine rq rfl rfl rfl rfl rfl ?_; refine rg_nil ?_; show HW _ _ _ _ _
                  refine hw_ret ?_; refine ⟨.inr rfl, ?_⟩
                  first | (exfalso; omega) | (have he : appErr d c = insErr (tblAt d c.name) c.row := (aE5 (by omega) hix).trans (cE2 (by omega)); rw [aD_err he (by assumption)]; exact ⟨_, _, _, _, rfl, (by (repeat' apply And.intro) <;> first | trivial | exact Nat.le_of_ble_eq_true rfl | rfl), rfl, (by (repeat' apply And.intro) <;> first | trivial | exact Nat.le_of_ble_eq_true rfl | rfl), ⟨CoC.refl _, cci he.symm, trivial⟩⟩) | (have he : appErr d c = delErr (tblAt d c.name) c.row.id := (aE5 (by omega) hix).trans (cE3 (by omega) hfd hval); rw [aD_err he (by assumption)]; exact ⟨_, _, _, _, rfl, (by (repeat' apply And.intro) <;> first | trivial | exact Nat.le_of_ble_eq_true rfl | rfl), rfl, (by (repeat' apply And.intro) <;> first | trivial | exact Nat.le_of_ble_eq_true rfl | rfl), ⟨CoC.refl _, cci he.symm, trivial⟩⟩) | (have he : appErr d c = chErr (tblAt d c.name) c.row.id c.attr c.value := (aE5 (by omega) hix).trans (cEc (by omega) (by omega) hfd hval); rw [aD_err he (by assumption)]; exact ⟨_, _, _, _, rfl, (by (repeat' apply And.intro) <;> first | trivial | exact Nat.le_of_ble_eq_true rfl | rfl), rfl, (by (repeat' apply And.intro) <;> first | trivial | exact Nat.le_of_ble_eq_true rfl | rfl), ⟨CoC.refl _, cci he.symm, trivial⟩⟩)
                · skip
                  have h18 := r18
                  have h18 := of_decide_eq_true (not_f h18)
                  try simp only [Int.toNat_natCast] at h18
                  refine hw_skip ?_; show HW _ _ _ _ _; refine hw_seq ?_; refine hw_region (E := TryzE) Tryzok ?_; (iterate 2 refine rq rfl rfl rfl rfl rfl ?_)
                  refine rg_fcall rfl rfl rfl rfl rfl rfl good66 ((c66h d (by omega)).swap 0 100) (CoHCL.refl _) trivial rfl rfl ?_; refine rq rfl rfl rfl rfl rfl ?_; refine rm 10 rfl rfl rfl rfl rfl rfl ?_
                  refine rs rfl rfl rfl rfl rfl ?_; refine rg_nil ?_; show HW _ _ _ _ _; refine hw_seq ?_; refine hw_region (E := TryzE) Tryzok ?_; (iterate 5 refine rq rfl rfl rfl rfl rfl ?_); refine rs rfl rfl rfl rfl rfl ?_
                  refine rg_nil ?_; show HW _ _ _ _ _; refine hw_seq ?_; refine hw_region (E := TryzE) Tryzok ?_; refine rq rfl rfl rfl rfl rfl ?_; refine rs rfl rfl rfl rfl rfl ?_; refine rq rfl rfl rfl rfl rfl ?_; refine rg_nil ?_
                  show HW _ _ _ _ _; refine hw_ret ?_; refine ⟨.inr rfl, ?_⟩
                  first | (exfalso; omega) | (have he : appErr d c = 0 := ((aE5 (by omega) hix).trans (cE2 (by omega))).trans (by assumption); rw [aD2 he (by omega) (cT2 (by omega))]; exact ⟨_, _, _, _, rfl, (by (repeat' apply And.intro) <;> first | trivial | exact Nat.le_of_ble_eq_true rfl | rfl), rfl, (by (repeat' apply And.intro) <;> first | trivial | exact Nat.le_of_ble_eq_true rfl | rfl), ⟨CoC.agg ⟨set_co htb, trivial⟩, cci he.symm, trivial⟩⟩) | (have he : appErr d c = 0 := ((aE5 (by omega) hix).trans (cE3 (by omega) hfd hval)).trans (by assumption); rw [aD2 he (by omega) (cT3 (by omega))]; exact ⟨_, _, _, _, rfl, (by (repeat' apply And.intro) <;> first | trivial | exact Nat.le_of_ble_eq_true rfl | rfl), rfl, (by (repeat' apply And.intro) <;> first | trivial | exact Nat.le_of_ble_eq_true rfl | rfl), ⟨CoC.agg ⟨set_co htb, trivial⟩, cci he.symm, trivial⟩⟩) | (have he : appErr d c = 0 := ((aE5 (by omega) hix).trans (cEc (by omega) (by omega) hfd hval)).trans (by assumption); rw [aD2 he (by omega) (cT4 (by omega) (by omega))]; exact ⟨_, _, _, _, rfl, (by (repeat' apply And.intro) <;> first | trivial | exact Nat.le_of_ble_eq_true rfl | rfl), rfl, (by (repeat' apply And.intro) <;> first | trivial | exact Nat.le_of_ble_eq_true rfl | rfl), ⟨CoC.agg ⟨set_co htb, trivial⟩, cci he.symm, trivial⟩⟩)
              · skip
                have h17 := r17
                have h17 := of_decide_eq_false h17
                try simp only [Int.toNat_natCast] at h17
                refine hw_seq ?_; refine hw_region (E := TryzE) Tryzok ?_; (iterate 2 refine rq rfl rfl rfl rfl rfl ?_); refine rg_nil ?_; show HW _ _ _ _ _; refine hw_cond _ rfl (fun r19 => ?_) (fun r19 => ?_)
                · skip
                  have h19 := r19
                  have h19 := of_decide_eq_true h19
                  try simp only [Int.toNat_natCast] at h19
                  refine hw_region (E := TryzE) Tryzok ?_; (iterate 9 refine rq rfl rfl rfl rfl rfl ?_); refine rc rfl rfl rfl rfl rfl rfl good72 (c72 (tblAt d c.name) c.row.id c.attr c.value) (CoL.refl _) rfl rfl ?_
                  (iterate 3 refine rq rfl rfl rfl rfl rfl ?_); refine rs rfl rfl rfl rfl rfl ?_; refine rq rfl rfl rfl rfl rfl ?_; refine rg_nil ?_; show HW _ _ _ _ _; (iterate 2 refine hw_seq ?_)
                  refine hw_region (E := TryzE) Tryzok ?_; (iterate 2 refine rq rfl rfl rfl rfl rfl ?_); refine rg_nil ?_; show HW _ _ _ _ _; refine hw_cond _ rfl (fun r20 => ?_) (fun r20 => ?_)
                  · skip
                    have h20 := r20
                    have h20 := of_decide_eq_false (not_t h20)
                    try simp only [Int.toNat_natCast] at h20
                    refine hw_seq ?_; refine hw_region (E := TryzE) Tryzok ?_; (iterate 2 refine rq rfl rfl rfl rfl rfl ?_); refine rs rfl rfl rfl rfl rfl ?_; refine rq rfl rfl rfl rfl rfl ?_; refine rg_nil ?_; show HW _ _ _ _ _
                    refine hw_ret ?_; refine ⟨.inr rfl, ?_⟩
                    first | (exfalso; omega) | (have he : appErr d c = insErr (tblAt d c.name) c.row := (aE5 (by omega) hix).trans (cE2 (by omega)); rw [aD_err he (by assumption)]; exact ⟨_, _, _, _, rfl, (by (repeat' apply And.intro) <;> first | trivial | exact Nat.le_of_ble_eq_true rfl | rfl), rfl, (by (repeat' apply And.intro) <;> first | trivial | exact Nat.le_of_ble_eq_true rfl | rfl), ⟨CoC.refl _, cci he.symm, trivial⟩⟩) | (have he : appErr d c = delErr (tblAt d c.name) c.row.id := (aE5 (by omega) hix).trans (cE3 (by omega) hfd hval); rw [aD_err he (by assumption)]; exact ⟨_, _, _, _, rfl, (by (repeat' apply And.intro) <;> first | trivial | exact Nat.le_of_ble_eq_true rfl | rfl), rfl, (by (repeat' apply And.intro) <;> first | trivial | exact Nat.le_of_ble_eq_true rfl | rfl), ⟨CoC.refl _, cci he.symm, trivial⟩⟩) | (have he : appErr d c = chErr (tblAt d c.name) c.row.id c.attr c.value := (aE5 (by omega) hix).trans (cEc (by omega) (by omega) hfd hval); rw [aD_err he (by assumption)]; exact ⟨_, _, _, _, rfl, (by (repeat' apply And.intro) <;> first | trivial | exact Nat.le_of_ble_eq_true rfl | rfl), rfl, (by (repeat' apply And.intro) <;> first | trivial | exact Nat.le_of_ble_eq_true rfl | rfl), ⟨CoC.refl _, cci he.symm, trivial⟩⟩)
                  · skip
                    have h20 := r20
                    have h20 := of_decide_eq_true (not_f h20)
                    try simp only [Int.toNat_natCast] at h20
                    refine hw_skip ?_; show HW _ _ _ _ _; refine hw_seq ?_; refine hw_region (E := TryzE) Tryzok ?_; (iterate 2 refine rq rfl rfl rfl rfl rfl ?_)
                    refine rg_fcall rfl rfl rfl rfl rfl rfl good66 ((c66h d (by omega)).swap 0 100) (CoHCL.refl _) trivial rfl rfl ?_; refine rq rfl rfl rfl rfl rfl ?_; refine rm 11 rfl rfl rfl rfl rfl rfl ?_
                    refine rs rfl rfl rfl rfl rfl ?_; refine rg_nil ?_; show HW _ _ _ _ _; refine hw_seq ?_; refine hw_region (E := TryzE) Tryzok ?_; (iterate 5 refine rq rfl rfl rfl rfl rfl ?_); refine rs rfl rfl rfl rfl rfl ?_
                    refine rg_nil ?_; show HW _ _ _ _ _; refine hw_seq ?_; refine hw_region (E := TryzE) Tryzok ?_; refine rq rfl rfl rfl rfl rfl ?_; refine rs rfl rfl rfl rfl rfl ?_; refine rq rfl rfl rfl rfl rfl ?_
                    refine rg_nil ?_; show HW _ _ _ _ _; refine hw_ret ?_; refine ⟨.inr rfl, ?_⟩
                    first | (exfalso; omega) | (have he : appErr d c = 0 := ((aE5 (by omega) hix).trans (cE2 (by omega))).trans (by assumption); rw [aD2 he (by omega) (cT2 (by omega))]; exact ⟨_, _, _, _, rfl, (by (repeat' apply And.intro) <;> first | trivial | exact Nat.le_of_ble_eq_true rfl | rfl), rfl, (by (repeat' apply And.intro) <;> first | trivial | exact Nat.le_of_ble_eq_true rfl | rfl), ⟨CoC.agg ⟨set_co htb, trivial⟩, cci he.symm, trivial⟩⟩) | (have he : appErr d c = 0 := ((aE5 (by omega) hix).trans (cE3 (by omega) hfd hval)).trans (by assumption); rw [aD2 he (by omega) (cT3 (by omega))]; exact ⟨_, _, _, _, rfl, (by (repeat' apply And.intro) <;> first | trivial | exact Nat.le_of_ble_eq_true rfl | rfl), rfl, (by (repeat' apply And.intro) <;> first | trivial | exact Nat.le_of_ble_eq_true rfl | rfl), ⟨CoC.agg ⟨set_co htb, trivial⟩, cci he.symm, trivial⟩⟩) | (have he : appErr d c = 0 := ((aE5 (by omega) hix).trans (cEc (by omega) (by omega) hfd hval)).trans (by assumption); rw [aD2 he (by omega) (cT4 (by omega) (by omega))]; exact ⟨_, _, _, _, rfl, (by (repeat' apply And.intro) <;> first | trivial | exact Nat.le_of_ble_eq_true rfl | rfl), rfl, (by (repeat' apply And.intro) <;> first | trivial | exact Nat.le_of_ble_eq_true rfl | rfl), ⟨CoC.agg ⟨set_co htb, trivial⟩, cci he.symm, trivial⟩⟩)
                · skip
                  have h19 := r19
                  have h19 := of_decide_eq_false h19
                  try simp only [Int.toNat_natCast] at h19
                  exfalso
                  omega
end Go.Hx
end
