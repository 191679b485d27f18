/- A part of the proof: lemmas for the theorem of this claim, merged by a program of ours out of W8, W9. -/
import Derived.Test.YtdcdbghdgjlhhaaGreatN19
set_option linter.all false
section
namespace Go.Hx
open Go.Proofs
set_option maxRecDepth 100000
theorem good61 : goodFn Tryz.prog 61 := ⟨Tryz.f61, Tryz.func61, by kernel_rfl, by kernel_rfl⟩
theorem c61 (t : Tbl) (r : Row) : HPure Tryz.prog 61 [t.pc, r.pc] (prOf [(insT t r).pc, pI (insErr t r)]) := by
  refine hpure_of (nt := 105) Tryzok Tryz.func61 rfl rfl (Nat.le_of_ble_eq_true rfl) ?_; refine hw_seq ?_; refine hw_region (E := TryzE) Tryzok ?_; refine rm 0 rfl rfl rfl rfl rfl rfl ?_; refine rm 1 rfl rfl rfl rfl rfl rfl ?_
  refine rm 2 rfl rfl rfl rfl rfl rfl ?_; refine rq rfl rfl rfl rfl rfl ?_; refine rg_nil ?_; show HW _ _ _ _ _; (iterate 2 refine hw_seq ?_); refine hw_region (E := TryzE) Tryzok ?_; refine rq rfl rfl rfl rfl rfl ?_
  refine rc rfl rfl rfl rfl rfl rfl good82 (c82 _) (CoL.refl _) rfl rfl ?_; refine rq rfl rfl rfl rfl rfl ?_; refine rg_nil ?_; show HW _ _ _ _ _; refine hw_seq ?_; refine hw_region (E := TryzE) Tryzok ?_
  (iterate 2 refine rq rfl rfl rfl rfl rfl ?_); refine rg_nil ?_; show HW _ _ _ _ _; refine hw_cond _ rfl (fun r0 => ?_) (fun r0 => ?_)
  · skip
    have h0 := r0
    have h0 := of_decide_eq_false (not_t h0)
    try simp only [Int.toNat_natCast] at h0
    refine hw_seq ?_; refine hw_region (E := TryzE) Tryzok ?_; (iterate 2 refine rq rfl rfl rfl rfl rfl ?_); refine rs rfl rfl rfl rfl rfl ?_; refine rq rfl rfl rfl rfl rfl ?_; refine rg_nil ?_; show HW _ _ _ _ _; refine hw_ret ?_
    refine ⟨.inr rfl, ?_⟩
    have he : insErr t r = tblErr t := by unfold insErr; rw [if_pos (by assumption)]
    rw [insT_err he (by first | assumption | omega | decide)]
    exact ⟨_, _, _, _, rfl, (by (repeat' apply And.intro) <;> first | trivial | exact Nat.le_of_ble_eq_true rfl | rfl), rfl, (by (repeat' apply And.intro) <;> first | trivial | exact Nat.le_of_ble_eq_true rfl | rfl), ⟨CoC.agg ⟨CoP.refl _, co_nil, co_nil, trivial⟩, cci he.symm, trivial⟩⟩
  · skip
    have h0 := r0
    have h0 := of_decide_eq_true (not_f h0)
    try simp only [Int.toNat_natCast] at h0
    have hT := tok_iff.1 h0
    have hok := hT.ok
    refine hw_skip ?_; show HW _ _ _ _ _; (iterate 2 refine hw_seq ?_); refine hw_region (E := TryzE) Tryzok ?_; (iterate 7 refine rq rfl rfl rfl rfl rfl ?_); refine rg_nil ?_; show HW _ _ _ _ _
    refine hw_cond _ rfl (fun r1 => ?_) (fun r1 => ?_)
    · skip
      have h1 := r1
      have h1 := of_decide_eq_false (not_t h1)
      try simp only [Int.toNat_natCast] at h1
      refine hw_seq ?_; refine hw_region (E := TryzE) Tryzok ?_; refine rq rfl rfl rfl rfl rfl ?_; refine rs rfl rfl rfl rfl rfl ?_; refine rq rfl rfl rfl rfl rfl ?_; refine rg_nil ?_; show HW _ _ _ _ _; refine hw_ret ?_
      refine ⟨.inr rfl, ?_⟩
      have he : insErr t r = 6 := by unfold insErr; rw [if_neg (by omega), if_pos (by omega)]
      rw [insT_err he (by first | assumption | omega | decide)]
      exact ⟨_, _, _, _, rfl, (by (repeat' apply And.intro) <;> first | trivial | exact Nat.le_of_ble_eq_true rfl | rfl), rfl, (by (repeat' apply And.intro) <;> first | trivial | exact Nat.le_of_ble_eq_true rfl | rfl), ⟨CoC.agg ⟨CoP.refl _, co_nil, co_nil, trivial⟩, cci he.symm, trivial⟩⟩
    · skip
      have h1 := r1
      have h1 := of_decide_eq_true (not_f h1)
      try simp only [Int.toNat_natCast] at h1
      refine hw_skip ?_; show HW _ _ _ _ _; (iterate 2 refine hw_seq ?_); refine hw_region (E := TryzE) Tryzok ?_; (iterate 4 refine rq rfl rfl rfl rfl rfl ?_); refine rsplit rfl rfl (fun r2 => ?_) (fun r2 => ?_)
      · skip
        have h2 := r2
        have h2 := of_decide_eq_true h2
        try simp only [Int.toNat_natCast] at h2
        (iterate 4 refine rk rfl rfl rfl (gtf r2) ?_); refine rq rfl rfl rfl rfl rfl ?_ (hp := r2); refine rg_nil ?_; show HW _ _ _ _ _; refine hw_cond _ rfl (fun _ => ?_) (fun e => by cases e); refine hw_seq ?_
        refine hw_region (E := TryzE) Tryzok ?_; refine rq rfl rfl rfl rfl rfl ?_; refine rs rfl rfl rfl rfl rfl ?_; refine rq rfl rfl rfl rfl rfl ?_; refine rg_nil ?_; show HW _ _ _ _ _; refine hw_ret ?_; refine ⟨.inr rfl, ?_⟩
        have he : insErr t r = 1 := by unfold insErr; rw [if_neg (by omega), if_neg (by omega), if_pos (by first | exact .inl (by omega) | exact .inr (by assumption))]
        rw [insT_err he (by first | assumption | omega | decide)]
        exact ⟨_, _, _, _, rfl, (by (repeat' apply And.intro) <;> first | trivial | exact Nat.le_of_ble_eq_true rfl | rfl), rfl, (by (repeat' apply And.intro) <;> first | trivial | exact Nat.le_of_ble_eq_true rfl | rfl), ⟨CoC.agg ⟨CoP.refl _, co_nil, co_nil, trivial⟩, cci he.symm, trivial⟩⟩
      · skip
        have h2 := r2
        have h2 := of_decide_eq_false h2
        try simp only [Int.toNat_natCast] at h2
        (iterate 2 refine rq rfl rfl rfl rfl (gff r2) ?_); refine rc rfl rfl rfl rfl rfl rfl good83 (c83 _) (CoL.refl _) rfl (gff r2) ?_; refine rq rfl rfl rfl rfl (gff r2) ?_; refine rq rfl rfl rfl rfl rfl ?_; refine rg_nil ?_
        show HW _ _ _ _ _; refine hw_cond _ rfl (fun r3 => ?_) (fun r3 => ?_)
        · skip
          have h3 := r3
          have h3 := bif_f r2 h3
          have h3 := not_t h3
          refine hw_seq ?_; refine hw_region (E := TryzE) Tryzok ?_; refine rq rfl rfl rfl rfl rfl ?_; refine rs rfl rfl rfl rfl rfl ?_; refine rq rfl rfl rfl rfl rfl ?_; refine rg_nil ?_; show HW _ _ _ _ _; refine hw_ret ?_
          refine ⟨.inr rfl, ?_⟩
          have he : insErr t r = 1 := by unfold insErr; rw [if_neg (by omega), if_neg (by omega), if_pos (by first | exact .inl (by omega) | exact .inr (by assumption))]
          rw [insT_err he (by first | assumption | omega | decide)]
          exact ⟨_, _, _, _, rfl, (by (repeat' apply And.intro) <;> first | trivial | exact Nat.le_of_ble_eq_true rfl | rfl), rfl, (by (repeat' apply And.intro) <;> first | trivial | exact Nat.le_of_ble_eq_true rfl | rfl), ⟨CoC.agg ⟨CoP.refl _, co_nil, co_nil, trivial⟩, cci he.symm, trivial⟩⟩
        · skip
          have h3 := r3
          have h3 := bif_f r2 h3
          have h3 := not_f h3
          refine hw_skip ?_; show HW _ _ _ _ _; (iterate 2 refine hw_seq ?_); refine hw_region (E := TryzE) Tryzok ?_; (iterate 3 refine rq rfl rfl rfl rfl rfl ?_)
          refine rc rfl rfl rfl rfl rfl rfl good62 (c62 _ _) (CoL.refl _) rfl rfl ?_; (iterate 5 refine rq rfl rfl rfl rfl rfl ?_); refine rg_nil ?_; show HW _ _ _ _ _; refine hw_seq ?_; refine hw_region (E := TryzE) Tryzok ?_
          refine rq rfl rfl rfl rfl rfl ?_; refine rg_nil ?_; show HW _ _ _ _ _; refine hw_cond _ rfl (fun r4 => ?_) (fun r4 => ?_)
          · skip
            have h4 := r4
            have h42 := of_decide_eq_true h4
            refine hw_seq ?_; refine hw_region (E := TryzE) Tryzok ?_; refine rq rfl rfl rfl rfl rfl ?_; refine rs rfl rfl rfl rfl rfl ?_; refine rq rfl rfl rfl rfl rfl ?_; refine rg_nil ?_; show HW _ _ _ _ _; refine hw_ret ?_
            refine ⟨.inr rfl, ?_⟩
            have he : insErr t r = 5 := by unfold insErr; rw [if_neg (by omega), if_neg (by omega), if_neg (by rintro (h | h) <;> first | omega | simp_all), if_pos (by assumption)]
            rw [insT_err he (by first | assumption | omega | decide)]
            exact ⟨_, _, _, _, rfl, (by (repeat' apply And.intro) <;> first | trivial | exact Nat.le_of_ble_eq_true rfl | rfl), rfl, (by (repeat' apply And.intro) <;> first | trivial | exact Nat.le_of_ble_eq_true rfl | rfl), ⟨CoC.agg ⟨CoP.refl _, co_nil, co_nil, trivial⟩, cci he.symm, trivial⟩⟩
          · skip
            have h4 := r4
            have h42 := of_decide_eq_false h4
            refine hw_skip ?_; show HW _ _ _ _ _; (iterate 2 refine hw_seq ?_); refine hw_region (E := TryzE) Tryzok ?_; (iterate 4 refine rq rfl rfl rfl rfl rfl ?_); refine rg_nil ?_; show HW _ _ _ _ _
            refine hw_cond _ rfl (fun r5 => ?_) (fun r5 => ?_)
            · skip
              have h5 := r5
              have h5 := of_decide_eq_true h5
              try simp only [Int.toNat_natCast] at h5
              refine hw_seq ?_; refine hw_region (E := TryzE) Tryzok ?_; refine rq rfl rfl rfl rfl rfl ?_; refine rs rfl rfl rfl rfl rfl ?_; refine rq rfl rfl rfl rfl rfl ?_; refine rg_nil ?_; show HW _ _ _ _ _; refine hw_ret ?_
              refine ⟨.inr rfl, ?_⟩
              have he : insErr t r = 3 := by unfold insErr; rw [if_neg (by omega), if_neg (by omega), if_neg (by rintro (h | h) <;> first | omega | simp_all), if_neg (by omega), if_pos (by omega)]
              rw [insT_err he (by first | assumption | omega | decide)]
              exact ⟨_, _, _, _, rfl, (by (repeat' apply And.intro) <;> first | trivial | exact Nat.le_of_ble_eq_true rfl | rfl), rfl, (by (repeat' apply And.intro) <;> first | trivial | exact Nat.le_of_ble_eq_true rfl | rfl), ⟨CoC.agg ⟨CoP.refl _, co_nil, co_nil, trivial⟩, cci he.symm, trivial⟩⟩
            · skip
              have h5 := r5
              have h5 := of_decide_eq_false h5
              try simp only [Int.toNat_natCast] at h5
              refine hw_skip ?_; show HW _ _ _ _ _; refine hw_seq ?_
              have hie : insErr t r = 0 := by unfold insErr; rw [if_neg (by omega), if_neg (by omega), if_neg (by rintro (h | h) <;> first | omega | simp_all), if_neg (by omega), if_neg (by omega)]
              refine hw_region (E := TryzE) Tryzok ?_; (iterate 3 refine rq rfl rfl rfl rfl rfl ?_); refine rg_fcall rfl rfl rfl rfl rfl rfl good84 (c84h t t.rows hok.1 hok.2.1 hok.2.2) (CoHCL.refl _) trivial rfl rfl ?_
              refine rm 3 rfl rfl rfl rfl rfl rfl ?_; refine rs rfl rfl rfl rfl rfl ?_; refine rg_nil ?_; show HW _ _ _ _ _; refine hw_seq ?_; refine hw_draw (E := TryzE) Tryzok Tryzmixed [0, 1, 2, 3, 4, 5, 6, 7] ?_
              (iterate 3 refine rq rfl rfl rfl rfl rfl ?_); refine rc rfl rfl rfl rfl rfl rfl good85 (c85 r (by have := hT.na; omega)) (CoL.refl _) rfl rfl ?_; refine rm 4 rfl rfl rfl rfl rfl rfl ?_
              refine ra 5 true rfl rfl rfl rfl rfl rfl ?_; refine rq rfl rfl rfl rfl rfl ?_; refine rs rfl rfl rfl rfl rfl ?_; refine rg_nil ?_; refine ⟨by kernel_rfl, ?_⟩; show HW _ _ _ _ _; (iterate 2 refine hw_seq ?_)
              refine hw_region (E := TryzE) Tryzok ?_; (iterate 5 refine rq rfl rfl rfl rfl rfl ?_); refine rg_nil ?_; show HW _ _ _ _ _; refine hw_block ?_
              refine hw_loopK (ι := Nat) ⟨[(4, some _), (9, some _)], [(2, some _)]⟩ ⟨⟨⟨_, rfl, CoR.refl _⟩, ⟨_, rfl, CoR.refl _⟩, trivial⟩, ⟨⟨_, rfl, CoO.refl _⟩, trivial⟩⟩ (fun k => ⟨[(10, some (vI k))], [(3, some (.box [.p (.raw (.string t.name)), .p (strs t.attrs), .ref 100 (t.rows.length + 1)])), (100, some (.arr true 2 45 (t.rows.length + 1) (lf Row.c (insAt t.rows k r))))]⟩) (fun k => k ≤ t.rows.length ∧ ∀ j, k ≤ j → j < t.rows.length → r.id < (t.rows.getD j default).id) (fun k => k) (t.rows.length) (⟨Nat.le_refl _, fun j h1 h2 => by omega⟩) ⟨⟨⟨_, rfl, (by first | exact CoR.refl _ | exact coi (by omega) | exact cob (by simp_all))⟩, trivial⟩, ⟨⟨_, rfl, CoO.refl _⟩, ⟨_, rfl, (app_ins (lt2 (CoP.refl _) (CoP.refl _)))⟩, trivial⟩⟩ ?_
              rintro k ⟨hk, hK⟩
              (iterate 2 refine hw_seq ?_); refine hw_draw (E := TryzE) Tryzok Tryzmixed [0, 1, 2, 3, 4, 5, 6, 7, 8, 9, 10, 11, 12, 13, 14, 15, 16, 17] ?_; (iterate 3 refine rq rfl rfl rfl rfl rfl ?_)
              refine rsplit rfl rfl (fun r6 => ?_) (fun r6 => ?_)
              · skip
                have h6 := r6
                have h6 := of_decide_eq_true h6
                try simp only [Int.toNat_natCast] at h6
                (iterate 14 refine rq rfl rfl rfl rfl (gtt r6) ?_); refine rq rfl rfl rfl rfl rfl ?_; refine rg_nil ?_; refine ⟨by kernel_rfl, ?_⟩; show HW _ _ _ _ _; refine hw_cond _ rfl (fun r7 => ?_) (fun r7 => ?_)
                · skip
                  have h7 := r7
                  have h7 := bif_t r6 h7
                  have h7 := of_decide_eq_true h7
                  try simp only [Int.toNat_natCast] at h7
                  have hlt := insAt_lt (by omega) hk h7 (by omega) (by omega)
                  refine hw_skip ?_; show HW _ _ _ _ _; refine hw_seq ?_; refine hw_block ?_; refine hw_draw (E := TryzE) Tryzok Tryzmixed [0, 1, 2, 3, 4, 5, 6, 7, 8, 9, 10, 11, 12, 13, 14, 15, 16, 17, 18, 19, 20, 21] ?_
                  (iterate 19 refine rq rfl rfl rfl rfl rfl ?_); refine rs rfl rfl rfl rfl rfl ?_; refine rq rfl rfl rfl rfl rfl ?_; refine rs rfl rfl rfl rfl rfl ?_; refine rg_nil ?_; refine ⟨by kernel_rfl, ?_⟩; show HW _ _ _ _ _
                  refine hw_region (E := TryzE) Tryzok ?_; (iterate 3 refine rq rfl rfl rfl rfl rfl ?_); refine rg_nil ?_; refine ⟨k - 1, ?_, ?_, ?_⟩
                  · refine ⟨by omega, fun j h1 h2 => ?_⟩
                    by_cases hj : j = k - 1
                    · rw [hj]; exact hlt
                    · exact hK j (by omega) h2
                  · show k - 1 < k
                    omega
                  · exact ⟨⟨⟨_, rfl, (by first | exact CoR.refl _ | exact coi (by omega) | exact cob (by simp_all))⟩, ⟨_, rfl, CoR.refl _⟩, ⟨_, rfl, CoR.refl _⟩, trivial⟩, ⟨⟨_, rfl, CoO.refl _⟩, ⟨_, rfl, (swap_ins (by omega) hk (by omega) (by omega) rfl)⟩, ⟨_, rfl, CoO.refl _⟩, trivial⟩⟩
                · skip
                  have h7 := r7
                  have h7 := bif_t r6 h7
                  have h7 := of_decide_eq_false h7
                  try simp only [Int.toNat_natCast] at h7
                  have hlt := insAt_nlt (by omega) hk h7 (by omega) (by omega)
                  refine hw_exit ?_; show HW _ _ _ _ _; refine hw_seq ?_; refine hw_region (E := TryzE) Tryzok ?_; refine rq rfl rfl rfl rfl rfl ?_; refine rs rfl rfl rfl rfl rfl ?_; refine rq rfl rfl rfl rfl rfl ?_
                  refine rg_nil ?_; show HW _ _ _ _ _; refine hw_ret ?_; refine ⟨.inr rfl, ?_⟩
                  rw [insT_ok hie, ← insAt_insR (rowsErr_sorted hT.rs) hk hK (by first | exact .inl (by omega) | exact .inr hlt)]
                  exact ⟨_, _, _, _, rfl, (by (repeat' apply And.intro) <;> first | trivial | exact Nat.le_of_ble_eq_true rfl | rfl), rfl, (by (repeat' apply And.intro) <;> first | trivial | exact Nat.le_of_ble_eq_true rfl | rfl), ⟨CoC.agg ⟨CoP.refl _, CoP.refl _, CoP.sl (insAt_len hk) (.inl rfl) (fun h => h) (fun _ _ _ _ => CoP.refl _), trivial⟩, cci hie.symm, trivial⟩⟩
              · skip
                have h6 := r6
                have h6 := of_decide_eq_false h6
                try simp only [Int.toNat_natCast] at h6
                (iterate 14 refine rk rfl rfl rfl (gft r6) ?_); refine rq rfl rfl rfl rfl rfl ?_ (hp := r6); refine rg_nil ?_; refine ⟨by kernel_rfl, ?_⟩; show HW _ _ _ _ _; refine hw_cond _ rfl (fun e => by cases e) (fun _ => ?_)
                refine hw_exit ?_; show HW _ _ _ _ _; refine hw_seq ?_; refine hw_region (E := TryzE) Tryzok ?_; refine rq rfl rfl rfl rfl rfl ?_; refine rs rfl rfl rfl rfl rfl ?_; refine rq rfl rfl rfl rfl rfl ?_; refine rg_nil ?_
                show HW _ _ _ _ _; refine hw_ret ?_; refine ⟨.inr rfl, ?_⟩
                rw [insT_ok hie, ← insAt_insR (rowsErr_sorted hT.rs) hk hK (by first | exact .inl (by omega) | exact .inr hlt)]
                exact ⟨_, _, _, _, rfl, (by (repeat' apply And.intro) <;> first | trivial | exact Nat.le_of_ble_eq_true rfl | rfl), rfl, (by (repeat' apply And.intro) <;> first | trivial | exact Nat.le_of_ble_eq_true rfl | rfl), ⟨CoC.agg ⟨CoP.refl _, CoP.refl _, CoP.sl (insAt_len hk) (.inl rfl) (fun h => h) (fun _ _ _ _ => CoP.refl _), trivial⟩, cci hie.symm, trivial⟩⟩
end Go.Hx
end
section
namespace Go.Hx
open Go.Proofs
set_option maxRecDepth 100000
theorem good74 : goodFn Tryz.prog 74 := ⟨Tryz.f74, Tryz.func74, by kernel_rfl, by kernel_rfl⟩
theorem c74 (t : Tbl) (id : Int) : HPure Tryz.prog 74 [t.pc, pI id] (prOf [(delT t id).pc, pI (delErr t id)]) := by
  refine hpure_of (nt := 38) Tryzok Tryz.func74 rfl rfl (Nat.le_of_ble_eq_true rfl) ?_; refine hw_seq ?_; refine hw_region (E := TryzE) Tryzok ?_; refine rm 0 rfl rfl rfl rfl rfl rfl ?_; refine rm 1 rfl rfl rfl rfl rfl rfl ?_
  refine rq rfl rfl rfl rfl rfl ?_; refine rg_nil ?_; show HW _ _ _ _ _; (iterate 2 refine hw_seq ?_); refine hw_region (E := TryzE) Tryzok ?_; refine rq rfl rfl rfl rfl rfl ?_
  refine rc rfl rfl rfl rfl rfl rfl good82 (c82 _) (CoL.refl _) rfl rfl ?_; refine rq rfl rfl rfl rfl rfl ?_; refine rg_nil ?_; show HW _ _ _ _ _; refine hw_seq ?_; refine hw_region (E := TryzE) Tryzok ?_
  (iterate 2 refine rq rfl rfl rfl rfl rfl ?_); refine rg_nil ?_; show HW _ _ _ _ _; refine hw_cond _ rfl (fun r0 => ?_) (fun r0 => ?_)
  · skip
    have h0 := r0
    have h0 := of_decide_eq_false (not_t h0)
    try simp only [Int.toNat_natCast] at h0
    refine hw_seq ?_; refine hw_region (E := TryzE) Tryzok ?_; (iterate 2 refine rq rfl rfl rfl rfl rfl ?_); refine rs rfl rfl rfl rfl rfl ?_; refine rq rfl rfl rfl rfl rfl ?_; refine rg_nil ?_; show HW _ _ _ _ _; refine hw_ret ?_
    refine ⟨.inr rfl, ?_⟩
    have he : delErr t id = tblErr t := by unfold delErr; rw [if_pos (by assumption)]
    rw [delT_err he (by first | assumption | omega | decide)]
    exact ⟨_, _, _, _, rfl, (by (repeat' apply And.intro) <;> first | trivial | exact Nat.le_of_ble_eq_true rfl | rfl), rfl, (by (repeat' apply And.intro) <;> first | trivial | exact Nat.le_of_ble_eq_true rfl | rfl), ⟨CoC.agg ⟨CoP.refl _, co_nil, co_nil, trivial⟩, cci he.symm, trivial⟩⟩
  · skip
    have h0 := r0
    have h0 := of_decide_eq_true (not_f h0)
    try simp only [Int.toNat_natCast] at h0
    have hT := tok_iff.1 h0
    have hok := hT.ok
    refine hw_skip ?_; show HW _ _ _ _ _; refine hw_seq ?_; refine hw_region (E := TryzE) Tryzok ?_; (iterate 2 refine rq rfl rfl rfl rfl rfl ?_); refine rc rfl rfl rfl rfl rfl rfl good62 (c62 _ _) (CoL.refl _) rfl rfl ?_
    (iterate 5 refine rq rfl rfl rfl rfl rfl ?_); refine rg_nil ?_; show HW _ _ _ _ _; (iterate 2 refine hw_seq ?_); refine hw_region (E := TryzE) Tryzok ?_; (iterate 2 refine rq rfl rfl rfl rfl rfl ?_); refine rg_nil ?_
    show HW _ _ _ _ _; refine hw_cond _ rfl (fun r1 => ?_) (fun r1 => ?_)
    · skip
      have h1 := r1
      have h1 := not_t h1
      have hfd := of_decide_eq_false h1
      refine hw_seq ?_; refine hw_region (E := TryzE) Tryzok ?_; refine rq rfl rfl rfl rfl rfl ?_; refine rs rfl rfl rfl rfl rfl ?_; refine rq rfl rfl rfl rfl rfl ?_; refine rg_nil ?_; show HW _ _ _ _ _; refine hw_ret ?_
      refine ⟨.inr rfl, ?_⟩
      have he : delErr t id = 4 := by unfold delErr; rw [if_neg (by omega), if_neg (by omega)]
      rw [delT_err he (by first | assumption | omega | decide)]
      exact ⟨_, _, _, _, rfl, (by (repeat' apply And.intro) <;> first | trivial | exact Nat.le_of_ble_eq_true rfl | rfl), rfl, (by (repeat' apply And.intro) <;> first | trivial | exact Nat.le_of_ble_eq_true rfl | rfl), ⟨CoC.agg ⟨CoP.refl _, co_nil, co_nil, trivial⟩, cci he.symm, trivial⟩⟩
    · skip
      have h1 := r1
      have h1 := not_f h1
      have hfd := of_decide_eq_true h1
      have hix := row_at hfd
      refine hw_skip ?_; show HW _ _ _ _ _; refine hw_seq ?_
      have he : delErr t id = 0 := by unfold delErr; rw [if_neg (by omega), if_pos (by assumption)]
      have hnr := hT.nr
      refine hw_draw (E := TryzE) Tryzok Tryzmixed [0, 1, 2, 3, 4, 5, 6, 7, 8, 9, 10, 11, 12, 13, 14, 15] ?_; refine rq rfl rfl rfl rfl rfl ?_; refine rm 2 rfl rfl rfl rfl rfl rfl ?_; (iterate 4 refine rq rfl rfl rfl rfl rfl ?_)
      refine ra 3 true rfl rfl rfl rfl rfl rfl ?_; (iterate 5 refine rq rfl rfl rfl rfl rfl ?_); refine ra 4 true rfl rfl rfl rfl rfl rfl ?_
      refine rg_fcall rfl rfl rfl rfl rfl rfl good84 (HPure.eat (hcs := [t.pc.toH, .one (.ref 2 (t.rows.take (max (rowIx t.rows id) 0).toNat ++ t.rows.drop (max (rowIx t.rows id) 0 + 1).toNat).length)]) (o1 := [(2, .arr true 2 45 (t.rows.take (max (rowIx t.rows id) 0).toNat ++ t.rows.drop (max (rowIx t.rows id) 0 + 1).toNat).length (lf Row.c (t.rows.take (max (rowIx t.rows id) 0).toNat ++ t.rows.drop (max (rowIx t.rows id) 0 + 1).toNat)))]) (c84 t (t.rows.take (max (rowIx t.rows id) 0).toNat ++ t.rows.drop (max (rowIx t.rows id) 0 + 1).toNat) hok.1 (by simp; omega) (fun j hj => (hok.2.2 : rowsOk t.rows).sub (fun x hx => (List.mem_append.1 hx).elim (fun h => List.mem_of_mem_take h) (fun h => List.mem_of_mem_drop h)) j hj)) rfl (by (repeat' apply And.intro) <;> first | trivial | rfl) (CoL.refl _)) (⟨CoHC.refl _, congrArg (HV.ref 2) (by show 0 + (max (rowIx t.rows id) 0).toNat + (t.rows.length - (max (rowIx t.rows id) 0 + 1).toNat) = _; simp; omega), trivial⟩) ⟨⟨_, rfl, del_co (l := t.rows) (a := (max (rowIx t.rows id) 0).toNat) (b := (max (rowIx t.rows id) 0 + 1).toNat) (by omega)⟩, trivial⟩ rfl rfl ?_
      refine rs rfl rfl rfl rfl rfl ?_; refine rq rfl rfl rfl rfl rfl ?_; refine rg_nil ?_; refine ⟨by kernel_rfl, ?_⟩; show HW _ _ _ _ _; refine hw_ret ?_; refine ⟨.inr rfl, ?_⟩
      have hL : (t.rows.take (max (rowIx t.rows id) 0).toNat ++ t.rows.drop (max (rowIx t.rows id) 0 + 1).toNat) = t.rows.eraseIdx (rowIx t.rows id).toNat := by rw [← erase_eq, show (max (rowIx t.rows id) 0).toNat = (rowIx t.rows id).toNat from by omega, show (max (rowIx t.rows id) 0 + 1).toNat = (rowIx t.rows id).toNat + 1 from by omega]
      rw [delT_ok he, ← hL]
      exact ⟨_, _, _, _, rfl, (by (repeat' apply And.intro) <;> first | trivial | exact Nat.le_of_ble_eq_true rfl | rfl), rfl, (by (repeat' apply And.intro) <;> first | trivial | exact Nat.le_of_ble_eq_true rfl | rfl), ⟨CoC.refl _, cci he.symm, trivial⟩⟩
theorem good63 : goodFn Tryz.prog 63 := ⟨Tryz.f63, Tryz.func63, by kernel_rfl, by kernel_rfl⟩
theorem c63 (t : Tbl) (id attr : Int) (v : Val) : HPure Tryz.prog 63 [t.pc, .agg [.raw (.int .i64 id), .raw (.int .i64 attr)], v.pc] (prOf [(chT t id attr v).pc, pI (chErr t id attr v)]) := by
  refine hpure_of (nt := 59) Tryzok Tryz.func63 rfl rfl (Nat.le_of_ble_eq_true rfl) ?_; refine hw_seq ?_; refine hw_region (E := TryzE) Tryzok ?_; refine rm 0 rfl rfl rfl rfl rfl rfl ?_; refine rm 1 rfl rfl rfl rfl rfl rfl ?_
  refine rm 2 rfl rfl rfl rfl rfl rfl ?_; refine rm 3 rfl rfl rfl rfl rfl rfl ?_; refine rq rfl rfl rfl rfl rfl ?_; refine rg_nil ?_; show HW _ _ _ _ _; (iterate 2 refine hw_seq ?_); refine hw_region (E := TryzE) Tryzok ?_
  refine rq rfl rfl rfl rfl rfl ?_; refine rc rfl rfl rfl rfl rfl rfl good82 (c82 _) (CoL.refl _) rfl rfl ?_; refine rq rfl rfl rfl rfl rfl ?_; refine rg_nil ?_; show HW _ _ _ _ _; refine hw_seq ?_
  refine hw_region (E := TryzE) Tryzok ?_; (iterate 2 refine rq rfl rfl rfl rfl rfl ?_); refine rg_nil ?_; show HW _ _ _ _ _; refine hw_cond _ rfl (fun r0 => ?_) (fun r0 => ?_)
  · skip
    have h0 := r0
    have h0 := of_decide_eq_false (not_t h0)
    try simp only [Int.toNat_natCast] at h0
    refine hw_seq ?_; refine hw_region (E := TryzE) Tryzok ?_; (iterate 2 refine rq rfl rfl rfl rfl rfl ?_); refine rs rfl rfl rfl rfl rfl ?_; refine rq rfl rfl rfl rfl rfl ?_; refine rg_nil ?_; show HW _ _ _ _ _; refine hw_ret ?_
    refine ⟨.inr rfl, ?_⟩
    have he : chErr t id attr v = tblErr t := by unfold chErr; rw [if_pos (by assumption)]
    rw [chT_err he (by first | assumption | omega | decide)]
    exact ⟨_, _, _, _, rfl, (by (repeat' apply And.intro) <;> first | trivial | exact Nat.le_of_ble_eq_true rfl | rfl), rfl, (by (repeat' apply And.intro) <;> first | trivial | exact Nat.le_of_ble_eq_true rfl | rfl), ⟨CoC.agg ⟨CoP.refl _, co_nil, co_nil, trivial⟩, cci he.symm, trivial⟩⟩
  · skip
    have h0 := r0
    have h0 := of_decide_eq_true (not_f h0)
    try simp only [Int.toNat_natCast] at h0
    have hT := tok_iff.1 h0
    have hok := hT.ok
    refine hw_skip ?_; show HW _ _ _ _ _; refine hw_seq ?_; refine hw_region (E := TryzE) Tryzok ?_; (iterate 3 refine rq rfl rfl rfl rfl rfl ?_); refine rc rfl rfl rfl rfl rfl rfl good62 (c62 _ _) (CoL.refl _) rfl rfl ?_
    (iterate 5 refine rq rfl rfl rfl rfl rfl ?_); refine rg_nil ?_; show HW _ _ _ _ _; (iterate 2 refine hw_seq ?_); refine hw_region (E := TryzE) Tryzok ?_; (iterate 2 refine rq rfl rfl rfl rfl rfl ?_); refine rg_nil ?_
    show HW _ _ _ _ _; refine hw_cond _ rfl (fun r1 => ?_) (fun r1 => ?_)
    · skip
      have h1 := r1
      have h1 := not_t h1
      have hfd := of_decide_eq_false h1
      refine hw_seq ?_; refine hw_region (E := TryzE) Tryzok ?_; refine rq rfl rfl rfl rfl rfl ?_; refine rs rfl rfl rfl rfl rfl ?_; refine rq rfl rfl rfl rfl rfl ?_; refine rg_nil ?_; show HW _ _ _ _ _; refine hw_ret ?_
      refine ⟨.inr rfl, ?_⟩
      have he : chErr t id attr v = 4 := by unfold chErr; rw [if_neg (by omega), if_pos (by assumption)]
      rw [chT_err he (by first | assumption | omega | decide)]
      exact ⟨_, _, _, _, rfl, (by (repeat' apply And.intro) <;> first | trivial | exact Nat.le_of_ble_eq_true rfl | rfl), rfl, (by (repeat' apply And.intro) <;> first | trivial | exact Nat.le_of_ble_eq_true rfl | rfl), ⟨CoC.agg ⟨CoP.refl _, co_nil, co_nil, trivial⟩, cci he.symm, trivial⟩⟩
    · skip
      have h1 := r1
      have h1 := not_f h1
      have hfd := of_decide_eq_true h1
      have hix := row_at hfd
      refine hw_skip ?_; show HW _ _ _ _ _; (iterate 2 refine hw_seq ?_); refine hw_region (E := TryzE) Tryzok ?_; (iterate 4 refine rq rfl rfl rfl rfl rfl ?_); refine rsplit rfl rfl (fun r2 => ?_) (fun r2 => ?_)
      · skip
        have h2 := r2
        have h2 := of_decide_eq_true h2
        try simp only [Int.toNat_natCast] at h2
        (iterate 6 refine rk rfl rfl rfl (gtf r2) ?_); refine rq rfl rfl rfl rfl rfl ?_ (hp := r2); refine rg_nil ?_; show HW _ _ _ _ _; refine hw_cond _ rfl (fun _ => ?_) (fun e => by cases e); refine hw_seq ?_
        refine hw_region (E := TryzE) Tryzok ?_; refine rq rfl rfl rfl rfl rfl ?_; refine rs rfl rfl rfl rfl rfl ?_; refine rq rfl rfl rfl rfl rfl ?_; refine rg_nil ?_; show HW _ _ _ _ _; refine hw_ret ?_; refine ⟨.inr rfl, ?_⟩
        have he : chErr t id attr v = 6 := by unfold chErr; rw [if_neg (by omega), if_neg (by simpa using hfd), if_pos (by first | exact .inl (by assumption) | exact .inr (by assumption))]
        rw [chT_err he (by first | assumption | omega | decide)]
        exact ⟨_, _, _, _, rfl, (by (repeat' apply And.intro) <;> first | trivial | exact Nat.le_of_ble_eq_true rfl | rfl), rfl, (by (repeat' apply And.intro) <;> first | trivial | exact Nat.le_of_ble_eq_true rfl | rfl), ⟨CoC.agg ⟨CoP.refl _, co_nil, co_nil, trivial⟩, cci he.symm, trivial⟩⟩
      · skip
        have h2 := r2
        have h2 := of_decide_eq_false h2
        try simp only [Int.toNat_natCast] at h2
        (iterate 6 refine rq rfl rfl rfl rfl (gff r2) ?_); refine rq rfl rfl rfl rfl rfl ?_; refine rg_nil ?_; show HW _ _ _ _ _; refine hw_cond _ rfl (fun r3 => ?_) (fun r3 => ?_)
        · skip
          have h3 := r3
          have h3 := bif_f r2 h3
          have h3 := of_decide_eq_true h3
          try simp only [Int.toNat_natCast] at h3
          refine hw_seq ?_; refine hw_region (E := TryzE) Tryzok ?_; refine rq rfl rfl rfl rfl rfl ?_; refine rs rfl rfl rfl rfl rfl ?_; refine rq rfl rfl rfl rfl rfl ?_; refine rg_nil ?_; show HW _ _ _ _ _; refine hw_ret ?_
          refine ⟨.inr rfl, ?_⟩
          have he : chErr t id attr v = 6 := by unfold chErr; rw [if_neg (by omega), if_neg (by simpa using hfd), if_pos (by first | exact .inl (by assumption) | exact .inr (by assumption))]
          rw [chT_err he (by first | assumption | omega | decide)]
          exact ⟨_, _, _, _, rfl, (by (repeat' apply And.intro) <;> first | trivial | exact Nat.le_of_ble_eq_true rfl | rfl), rfl, (by (repeat' apply And.intro) <;> first | trivial | exact Nat.le_of_ble_eq_true rfl | rfl), ⟨CoC.agg ⟨CoP.refl _, co_nil, co_nil, trivial⟩, cci he.symm, trivial⟩⟩
        · skip
          have h3 := r3
          have h3 := bif_f r2 h3
          have h3 := of_decide_eq_false h3
          try simp only [Int.toNat_natCast] at h3
          refine hw_skip ?_; show HW _ _ _ _ _; (iterate 2 refine hw_seq ?_); refine hw_region (E := TryzE) Tryzok ?_; refine rq rfl rfl rfl rfl rfl ?_; refine rc rfl rfl rfl rfl rfl rfl good86 (c86 _) (CoL.refl _) rfl rfl ?_
          refine rq rfl rfl rfl rfl rfl ?_; refine rg_nil ?_; show HW _ _ _ _ _; refine hw_cond _ rfl (fun r4 => ?_) (fun r4 => ?_)
          · skip
            have h4 := r4
            have h4 := not_t h4
            refine hw_seq ?_; refine hw_region (E := TryzE) Tryzok ?_; refine rq rfl rfl rfl rfl rfl ?_; refine rs rfl rfl rfl rfl rfl ?_; refine rq rfl rfl rfl rfl rfl ?_; refine rg_nil ?_; show HW _ _ _ _ _; refine hw_ret ?_
            refine ⟨.inr rfl, ?_⟩
            have he : chErr t id attr v = 1 := by unfold chErr; rw [if_neg (by omega), if_neg (by simpa using hfd), if_neg (by rintro (h | h) <;> omega), if_pos (by assumption)]
            rw [chT_err he (by first | assumption | omega | decide)]
            exact ⟨_, _, _, _, rfl, (by (repeat' apply And.intro) <;> first | trivial | exact Nat.le_of_ble_eq_true rfl | rfl), rfl, (by (repeat' apply And.intro) <;> first | trivial | exact Nat.le_of_ble_eq_true rfl | rfl), ⟨CoC.agg ⟨CoP.refl _, co_nil, co_nil, trivial⟩, cci he.symm, trivial⟩⟩
          · skip
            have h4 := r4
            have h4 := not_f h4
            refine hw_skip ?_; show HW _ _ _ _ _; refine hw_seq ?_
            have hw := hT.width hix
            have he : chErr t id attr v = 0 := by unfold chErr; rw [if_neg (by omega), if_neg (by simpa using hfd), if_neg (by rintro (h | h) <;> omega), if_neg (by simp_all)]
            refine hw_region (E := TryzE) Tryzok ?_; (iterate 3 refine rq rfl rfl rfl rfl rfl ?_)
            refine rg_fcall rfl rfl rfl rfl rfl rfl good84 (c84g t t.rows hok.1 hok.2.1 hok.2.2 (max (rowIx t.rows id) 0).toNat hix) (CoHCL.refl _) trivial rfl rfl ?_; refine rm 4 rfl rfl rfl rfl rfl rfl ?_
            refine rs rfl rfl rfl rfl rfl ?_; refine rg_nil ?_; show HW _ _ _ _ _; refine hw_seq ?_; refine hw_draw (E := TryzE) Tryzok Tryzmixed [0, 1, 2, 3, 4, 5, 6, 7, 8, 9, 10] ?_; (iterate 5 refine rq rfl rfl rfl rfl rfl ?_)
            refine rq (out := ⟨_, .v (.one (.ref 101 (t.rows.getD (max (rowIx t.rows id) 0).toNat default).vals.length))⟩) rfl rfl rfl (congrArg (fun h => some (Out.mk _ (HR.v (HC.one h)))) (if_pos ⟨rfl, rfl⟩)) rfl ?_
            (iterate 4 refine rq rfl rfl rfl rfl rfl ?_); refine rs rfl rfl rfl rfl rfl ?_; refine rg_nil ?_; refine ⟨by kernel_rfl, ?_⟩
            refine hw_freeze_elem 100 (id := 101) (lf Row.c (setC t.rows (max (rowIx t.rows id) 0).toNat attr.toNat v)) rfl rfl rfl ?_ ?_
            · exact setC_hole hix rfl (by omega) rfl rfl (lt3 (CoP.refl _) (CoP.refl _) (CoP.refl _))
            show HW _ _ _ _ _; refine hw_seq ?_; refine hw_region (E := TryzE) Tryzok ?_; refine rq rfl rfl rfl rfl rfl ?_; refine rs rfl rfl rfl rfl rfl ?_; refine rq rfl rfl rfl rfl rfl ?_; refine rg_nil ?_; show HW _ _ _ _ _
            refine hw_ret ?_; refine ⟨.inr rfl, ?_⟩
            rw [chT_ok he, show (rowIx t.rows id).toNat = (max (rowIx t.rows id) 0).toNat from by omega]
            exact ⟨_, _, _, _, rfl, (by (repeat' apply And.intro) <;> first | trivial | exact Nat.le_of_ble_eq_true rfl | rfl), rfl, (by (repeat' apply And.intro) <;> first | trivial | exact Nat.le_of_ble_eq_true rfl | rfl), ⟨CoC.agg ⟨CoP.refl _, CoP.refl _, CoP.sl setC_len (.inl rfl) (fun h => h) (fun _ _ _ _ => CoP.refl _), trivial⟩, cci he.symm, trivial⟩⟩
theorem good72 : goodFn Tryz.prog 72 := ⟨Tryz.f72, Tryz.func72, by kernel_rfl, by kernel_rfl⟩
theorem c72 (t : Tbl) (id attr : Int) (v : Val) : HPure Tryz.prog 72 [t.pc, .agg [.raw (.int .i64 id), .raw (.int .i64 attr)], v.pc] (prOf [(chT t id attr v).pc, pI (chErr t id attr v)]) := by
  refine hpure_of (nt := 62) Tryzok Tryz.func72 rfl rfl (Nat.le_of_ble_eq_true rfl) ?_; refine hw_seq ?_; refine hw_region (E := TryzE) Tryzok ?_; refine rm 0 rfl rfl rfl rfl rfl rfl ?_; refine rm 1 rfl rfl rfl rfl rfl rfl ?_
  refine rm 2 rfl rfl rfl rfl rfl rfl ?_; refine rm 3 rfl rfl rfl rfl rfl rfl ?_; refine rq rfl rfl rfl rfl rfl ?_; refine rg_nil ?_; show HW _ _ _ _ _; (iterate 2 refine hw_seq ?_); refine hw_region (E := TryzE) Tryzok ?_
  refine rq rfl rfl rfl rfl rfl ?_; refine rc rfl rfl rfl rfl rfl rfl good88 (c88 _) (CoL.refl _) rfl rfl ?_; refine rq rfl rfl rfl rfl rfl ?_; refine rg_nil ?_; show HW _ _ _ _ _; refine hw_seq ?_
  refine hw_region (E := TryzE) Tryzok ?_; (iterate 2 refine rq rfl rfl rfl rfl rfl ?_); refine rg_nil ?_; show HW _ _ _ _ _; refine hw_cond _ rfl (fun r0 => ?_) (fun r0 => ?_)
  · skip
    have h0 := r0
    have h0 := of_decide_eq_false (not_t h0)
    try simp only [Int.toNat_natCast] at h0
    refine hw_seq ?_; refine hw_region (E := TryzE) Tryzok ?_; (iterate 2 refine rq rfl rfl rfl rfl rfl ?_); refine rs rfl rfl rfl rfl rfl ?_; refine rq rfl rfl rfl rfl rfl ?_; refine rg_nil ?_; show HW _ _ _ _ _; refine hw_ret ?_
    refine ⟨.inr rfl, ?_⟩
    have he : chErr t id attr v = tblErr t := by unfold chErr; rw [if_pos (by assumption)]
    rw [chT_err he (by first | assumption | omega | decide)]
    exact ⟨_, _, _, _, rfl, (by (repeat' apply And.intro) <;> first | trivial | exact Nat.le_of_ble_eq_true rfl | rfl), rfl, (by (repeat' apply And.intro) <;> first | trivial | exact Nat.le_of_ble_eq_true rfl | rfl), ⟨CoC.agg ⟨CoP.refl _, co_nil, co_nil, trivial⟩, cci he.symm, trivial⟩⟩
  · skip
    have h0 := r0
    have h0 := of_decide_eq_true (not_f h0)
    try simp only [Int.toNat_natCast] at h0
    have hT := tok_iff.1 h0
    have hok := hT.ok
    refine hw_skip ?_; show HW _ _ _ _ _; refine hw_seq ?_; refine hw_region (E := TryzE) Tryzok ?_; (iterate 3 refine rq rfl rfl rfl rfl rfl ?_); refine rc rfl rfl rfl rfl rfl rfl good68 (c68 _ _) (CoL.refl _) rfl rfl ?_
    (iterate 5 refine rq rfl rfl rfl rfl rfl ?_); refine rg_nil ?_; show HW _ _ _ _ _; refine hw_seq ?_; refine hw_block ?_; refine hw_seq ?_; refine hw_region (E := TryzE) Tryzok ?_; (iterate 3 refine rq rfl rfl rfl rfl rfl ?_)
    refine rg_nil ?_; show HW _ _ _ _ _; refine hw_cond _ rfl (fun r1 => ?_) (fun r1 => ?_)
    · skip
      have h1 := r1
      have h1 := not_t h1
      have hfd := of_decide_eq_false h1
      refine hw_seq ?_; refine hw_region (E := TryzE) Tryzok ?_; refine rq rfl rfl rfl rfl rfl ?_; refine rs rfl rfl rfl rfl rfl ?_; refine rq rfl rfl rfl rfl rfl ?_; refine rg_nil ?_; show HW _ _ _ _ _; refine hw_ret ?_
      refine ⟨.inr rfl, ?_⟩
      have he : chErr t id attr v = 4 := by unfold chErr; rw [if_neg (by omega), if_pos (by assumption)]
      rw [chT_err he (by first | assumption | omega | decide)]
      exact ⟨_, _, _, _, rfl, (by (repeat' apply And.intro) <;> first | trivial | exact Nat.le_of_ble_eq_true rfl | rfl), rfl, (by (repeat' apply And.intro) <;> first | trivial | exact Nat.le_of_ble_eq_true rfl | rfl), ⟨CoC.agg ⟨CoP.refl _, co_nil, co_nil, trivial⟩, cci he.symm, trivial⟩⟩
    · skip
      have h1 := r1
      have h1 := not_f h1
      have hfd := of_decide_eq_true h1
      have hix := row_at hfd
      refine hw_seq ?_; refine hw_region (E := TryzE) Tryzok ?_; (iterate 4 refine rq rfl rfl rfl rfl rfl ?_); refine rsplit rfl rfl (fun r2 => ?_) (fun r2 => ?_)
      · skip
        have h2 := r2
        have h2 := of_decide_eq_true h2
        try simp only [Int.toNat_natCast] at h2
        (iterate 6 refine rk rfl rfl rfl (gtf r2) ?_); refine rq rfl rfl rfl rfl rfl ?_ (hp := r2); refine rq rfl rfl rfl rfl rfl ?_; refine rg_nil ?_; show HW _ _ _ _ _; refine hw_cond _ rfl (fun _ => ?_) (fun e => by cases e)
        refine hw_seq ?_; refine hw_region (E := TryzE) Tryzok ?_; refine rq rfl rfl rfl rfl rfl ?_; refine rs rfl rfl rfl rfl rfl ?_; refine rq rfl rfl rfl rfl rfl ?_; refine rg_nil ?_; show HW _ _ _ _ _; refine hw_ret ?_
        refine ⟨.inr rfl, ?_⟩
        have he : chErr t id attr v = 6 := by unfold chErr; rw [if_neg (by omega), if_neg (by simpa using hfd), if_pos (by first | exact .inl (by assumption) | exact .inr (by assumption))]
        rw [chT_err he (by first | assumption | omega | decide)]
        exact ⟨_, _, _, _, rfl, (by (repeat' apply And.intro) <;> first | trivial | exact Nat.le_of_ble_eq_true rfl | rfl), rfl, (by (repeat' apply And.intro) <;> first | trivial | exact Nat.le_of_ble_eq_true rfl | rfl), ⟨CoC.agg ⟨CoP.refl _, co_nil, co_nil, trivial⟩, cci he.symm, trivial⟩⟩
      · skip
        have h2 := r2
        have h2 := of_decide_eq_false h2
        try simp only [Int.toNat_natCast] at h2
        (iterate 6 refine rq rfl rfl rfl rfl (gff r2) ?_); (iterate 2 refine rq rfl rfl rfl rfl rfl ?_); refine rg_nil ?_; show HW _ _ _ _ _; refine hw_cond _ rfl (fun r3 => ?_) (fun r3 => ?_)
        · skip
          have h3 := r3
          have h3 := bif_f r2 h3
          have h3 := of_decide_eq_true h3
          try simp only [Int.toNat_natCast] at h3
          refine hw_seq ?_; refine hw_region (E := TryzE) Tryzok ?_; refine rq rfl rfl rfl rfl rfl ?_; refine rs rfl rfl rfl rfl rfl ?_; refine rq rfl rfl rfl rfl rfl ?_; refine rg_nil ?_; show HW _ _ _ _ _; refine hw_ret ?_
          refine ⟨.inr rfl, ?_⟩
          have he : chErr t id attr v = 6 := by unfold chErr; rw [if_neg (by omega), if_neg (by simpa using hfd), if_pos (by first | exact .inl (by assumption) | exact .inr (by assumption))]
          rw [chT_err he (by first | assumption | omega | decide)]
          exact ⟨_, _, _, _, rfl, (by (repeat' apply And.intro) <;> first | trivial | exact Nat.le_of_ble_eq_true rfl | rfl), rfl, (by (repeat' apply And.intro) <;> first | trivial | exact Nat.le_of_ble_eq_true rfl | rfl), ⟨CoC.agg ⟨CoP.refl _, co_nil, co_nil, trivial⟩, cci he.symm, trivial⟩⟩
        · skip
          have h3 := r3
          have h3 := bif_f r2 h3
          have h3 := of_decide_eq_false h3
          try simp only [Int.toNat_natCast] at h3
          refine hw_seq ?_; refine hw_region (E := TryzE) Tryzok ?_; refine rq rfl rfl rfl rfl rfl ?_; refine rc rfl rfl rfl rfl rfl rfl good76 (c76 _) (CoL.refl _) rfl rfl ?_; (iterate 2 refine rq rfl rfl rfl rfl rfl ?_)
          refine rg_nil ?_; show HW _ _ _ _ _; refine hw_cond _ rfl (fun r4 => ?_) (fun r4 => ?_)
          · skip
            have h4 := r4
            have h4 := not_t h4
            refine hw_seq ?_; refine hw_region (E := TryzE) Tryzok ?_; refine rq rfl rfl rfl rfl rfl ?_; refine rs rfl rfl rfl rfl rfl ?_; refine rq rfl rfl rfl rfl rfl ?_; refine rg_nil ?_; show HW _ _ _ _ _; refine hw_ret ?_
            refine ⟨.inr rfl, ?_⟩
            have he : chErr t id attr v = 1 := by unfold chErr; rw [if_neg (by omega), if_neg (by simpa using hfd), if_neg (by rintro (h | h) <;> omega), if_pos (by assumption)]
            rw [chT_err he (by first | assumption | omega | decide)]
            exact ⟨_, _, _, _, rfl, (by (repeat' apply And.intro) <;> first | trivial | exact Nat.le_of_ble_eq_true rfl | rfl), rfl, (by (repeat' apply And.intro) <;> first | trivial | exact Nat.le_of_ble_eq_true rfl | rfl), ⟨CoC.agg ⟨CoP.refl _, co_nil, co_nil, trivial⟩, cci he.symm, trivial⟩⟩
          · skip
            have h4 := r4
            have h4 := not_f h4
            refine hw_skip ?_; show HW _ _ _ _ _; refine hw_seq ?_
            have hw := hT.width hix
            have he : chErr t id attr v = 0 := by unfold chErr; rw [if_neg (by omega), if_neg (by simpa using hfd), if_neg (by rintro (h | h) <;> omega), if_neg (by simp_all)]
            refine hw_region (E := TryzE) Tryzok ?_; (iterate 3 refine rq rfl rfl rfl rfl rfl ?_)
            refine rg_fcall rfl rfl rfl rfl rfl rfl good94 (c94g t t.rows hok.1 hok.2.1 hok.2.2 (max (rowIx t.rows id) 0).toNat hix) (CoHCL.refl _) trivial rfl rfl ?_; refine rm 4 rfl rfl rfl rfl rfl rfl ?_
            refine rs rfl rfl rfl rfl rfl ?_; refine rg_nil ?_; show HW _ _ _ _ _; refine hw_seq ?_; refine hw_draw (E := TryzE) Tryzok Tryzmixed [0, 1, 2, 3, 4, 5, 6, 7, 8, 9, 10] ?_; (iterate 5 refine rq rfl rfl rfl rfl rfl ?_)
            refine rq (out := ⟨_, .v (.one (.ref 101 (t.rows.getD (max (rowIx t.rows id) 0).toNat default).vals.length))⟩) rfl rfl rfl (congrArg (fun h => some (Out.mk _ (HR.v (HC.one h)))) (if_pos ⟨rfl, rfl⟩)) rfl ?_
            (iterate 4 refine rq rfl rfl rfl rfl rfl ?_); refine rs rfl rfl rfl rfl rfl ?_; refine rg_nil ?_; refine ⟨by kernel_rfl, ?_⟩
            refine hw_freeze_elem 100 (id := 101) (lf Row.c (setC t.rows (max (rowIx t.rows id) 0).toNat attr.toNat v)) rfl rfl rfl ?_ ?_
            · exact setC_hole hix rfl (by omega) rfl rfl (lt3 (CoP.refl _) (CoP.refl _) (CoP.refl _))
            show HW _ _ _ _ _; refine hw_seq ?_; refine hw_region (E := TryzE) Tryzok ?_; refine rq rfl rfl rfl rfl rfl ?_; refine rs rfl rfl rfl rfl rfl ?_; refine rq rfl rfl rfl rfl rfl ?_; refine rg_nil ?_; show HW _ _ _ _ _
            refine hw_ret ?_; refine ⟨.inr rfl, ?_⟩
            rw [chT_ok he, show (rowIx t.rows id).toNat = (max (rowIx t.rows id) 0).toNat from by omega]
            exact ⟨_, _, _, _, rfl, (by (repeat' apply And.intro) <;> first | trivial | exact Nat.le_of_ble_eq_true rfl | rfl), rfl, (by (repeat' apply And.intro) <;> first | trivial | exact Nat.le_of_ble_eq_true rfl | rfl), ⟨CoC.agg ⟨CoP.refl _, CoP.refl _, CoP.sl setC_len (.inl rfl) (fun h => h) (fun _ _ _ _ => CoP.refl _), trivial⟩, cci he.symm, trivial⟩⟩
end Go.Hx
end
