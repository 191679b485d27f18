/- A part of the proof: lemmas for the theorem of this claim, merged by a program of ours out of X27. -/
import Derived.Test.YtididbpiikfaiaaDoorE33
set_option linter.all false
section
namespace Go.Hx
open Go.Proofs
set_option maxRecDepth 100000
theorem good34 : goodFn Tryd.prog 34 := ⟨Tryd.f34, Tryd.func34, by kernel_rfl, by kernel_rfl⟩
theorem cRApplyM (n : Int) (l : List Rw) (p m : List Fd) (i a b : Int) : HPure Tryd.prog 34 [pT n l, pP (fdl p), pP (fdl m), .agg [.raw (.bool true), .raw (.int .i64 i), .raw (.int .i64 a), .raw (.int .i64 b)]] (prOf [pT (applyE n l p m true i a b).1 (applyE n l p m true i a b).2.1, pI (applyE n l p m true i a b).2.2]) := by
  refine hpure_of (nt := 158) Trydok Tryd.func34 rfl rfl (Nat.le_of_ble_eq_true rfl) ?_; refine hw_seq ?_; refine hw_region (E := TrydE) Trydok ?_; refine rm 0 rfl rfl rfl rfl rfl rfl ?_; refine rm 1 rfl rfl rfl rfl rfl rfl ?_
  refine rm 2 rfl rfl rfl rfl rfl rfl ?_; refine rq rfl rfl rfl rfl rfl ?_; refine rg_nil ?_; show HW _ _ _ _ _; (iterate 2 refine hw_seq ?_); refine hw_region (E := TrydE) Trydok ?_; refine rq rfl rfl rfl rfl rfl ?_
  refine rc rfl rfl rfl rfl rfl rfl good15 (cRTValid n l) (CoL.refl _) rfl rfl ?_; refine rq rfl rfl rfl rfl rfl ?_; refine rg_nil ?_; show HW _ _ _ _ _; refine hw_cond _ rfl (fun r0 => ?_) (fun r0 => ?_)
  · skip
    have h0 := r0
    have h0 := not_t h0
    refine hw_seq ?_; refine hw_region (E := TrydE) Trydok ?_; refine rq rfl rfl rfl rfl rfl ?_; refine rs rfl rfl rfl rfl rfl ?_; refine rq rfl rfl rfl rfl rfl ?_; refine rg_nil ?_; show HW _ _ _ _ _; refine hw_ret ?_
    refine ⟨.inr rfl, ?_⟩
    have he := applyE_0 (n := n) (l := l) (p := p) (m := m) (mu := true) (i := i) (a := a) (b := b) (by simp_all)
    exact ⟨_, _, _, _, rfl, (by (repeat' apply And.intro) <;> first | trivial | exact Nat.le_of_ble_eq_true rfl | rfl), rfl, (by (repeat' apply And.intro) <;> first | trivial | exact Nat.le_of_ble_eq_true rfl | rfl), by rw [he]; exact ⟨CoC.agg ⟨CoP.refl _, co_nilZ, trivial⟩, CoC.refl _, trivial⟩⟩
  · skip
    have h0 := r0
    have h0 := not_f h0
    have hT : tok n l = true := by simp_all
    obtain ⟨hn0, hn16, hl256, hrow⟩ := tok_get hT
    refine hw_skip ?_; show HW _ _ _ _ _; (iterate 2 refine hw_seq ?_); refine hw_region (E := TrydE) Trydok ?_; (iterate 4 refine rq rfl rfl rfl rfl rfl ?_)
    refine rc rfl rfl rfl rfl rfl rfl good51 (cRBValid n p m) (CoL.refl _) rfl rfl ?_; refine rq rfl rfl rfl rfl rfl ?_; refine rg_nil ?_; show HW _ _ _ _ _; refine hw_seq ?_; refine hw_region (E := TrydE) Trydok ?_
    (iterate 2 refine rq rfl rfl rfl rfl rfl ?_); refine rg_nil ?_; show HW _ _ _ _ _; refine hw_cond _ rfl (fun r1 => ?_) (fun r1 => ?_)
    · skip
      have h1 := r1
      have h1 := of_decide_eq_false (not_t h1)
      try simp only [Int.toNat_natCast] at h1
      refine hw_seq ?_; refine hw_region (E := TrydE) Trydok ?_; (iterate 2 refine rq rfl rfl rfl rfl rfl ?_); refine rs rfl rfl rfl rfl rfl ?_; refine rq rfl rfl rfl rfl rfl ?_; refine rg_nil ?_; show HW _ _ _ _ _; refine hw_ret ?_
      refine ⟨.inr rfl, ?_⟩
      have he := applyE_1 (mu := true) (i := i) (a := a) (b := b) hT (by assumption)
      exact ⟨_, _, _, _, rfl, (by (repeat' apply And.intro) <;> first | trivial | exact Nat.le_of_ble_eq_true rfl | rfl), rfl, (by (repeat' apply And.intro) <;> first | trivial | exact Nat.le_of_ble_eq_true rfl | rfl), by rw [he]; exact ⟨CoC.agg ⟨CoP.refl _, co_nilZ, trivial⟩, CoC.refl _, trivial⟩⟩
    · skip
      have h1 := r1
      have h1 := of_decide_eq_true (not_f h1)
      try simp only [Int.toNat_natCast] at h1
      have hbe : bErr n p m = 0 := by assumption
      obtain ⟨_, _, hpl, hpa, hml, _⟩ := bErr_ok hbe
      refine hw_skip ?_; show HW _ _ _ _ _; refine hw_seq ?_; refine hw_region (E := TrydE) Trydok ?_; (iterate 4 refine rq rfl rfl rfl rfl rfl ?_); refine rg_nil ?_; show HW _ _ _ _ _; (iterate 2 refine hw_seq ?_)
      refine hw_region (E := TrydE) Trydok ?_; (iterate 4 refine rq rfl rfl rfl rfl rfl ?_); refine rsplit rfl rfl (fun r2 => ?_) (fun r2 => ?_)
      · skip
        have h2 := r2
        have h2 := of_decide_eq_true h2
        try simp only [Int.toNat_natCast] at h2
        (iterate 4 refine rk rfl rfl rfl (gtf r2) ?_); refine rq rfl rfl rfl rfl rfl ?_ (hp := r2); refine rq rfl rfl rfl rfl rfl ?_; (iterate 3 refine rk rfl rfl rfl rfl ?_); (iterate 2 refine rq rfl rfl rfl rfl rfl ?_)
        (iterate 4 refine rk rfl rfl rfl rfl ?_); (iterate 2 refine rq rfl rfl rfl rfl rfl ?_); (iterate 5 refine rk rfl rfl rfl rfl ?_); (iterate 2 refine rq rfl rfl rfl rfl rfl ?_); (iterate 3 refine rk rfl rfl rfl rfl ?_)
        (iterate 2 refine rq rfl rfl rfl rfl rfl ?_); (iterate 9 refine rk rfl rfl rfl rfl ?_); (iterate 2 refine rq rfl rfl rfl rfl rfl ?_); (iterate 10 refine rk rfl rfl rfl rfl ?_); refine rq rfl rfl rfl rfl rfl ?_
        refine rg_nil ?_; show HW _ _ _ _ _; refine hw_cond _ rfl (fun _ => ?_) (fun e => by cases e); refine hw_seq ?_; refine hw_region (E := TrydE) Trydok ?_; refine rq rfl rfl rfl rfl rfl ?_; refine rs rfl rfl rfl rfl rfl ?_
        refine rq rfl rfl rfl rfl rfl ?_; refine rg_nil ?_; show HW _ _ _ _ _; refine hw_ret ?_; refine ⟨.inr rfl, ?_⟩
        have he := applyE_2 (mu := true) (i := i) (a := a) (b := b) hT hbe (by unfold badS; first | exact .inl (by omega) | exact .inr (.inl (by omega)) | exact .inr (.inr (.inl (by omega))) | exact .inr (.inr (.inr (.inl (by omega)))) | exact .inr (.inr (.inr (.inr (.inl (by omega))))) | exact .inr (.inr (.inr (.inr (.inr (.inl (by omega)))))) | exact .inr (.inr (.inr (.inr (.inr (.inr (.inl ⟨by first | assumption | simp_all, by omega⟩)))))) | exact .inr (.inr (.inr (.inr (.inr (.inr (.inr ⟨by first | assumption | simp_all, by omega⟩)))))))
        exact ⟨_, _, _, _, rfl, (by (repeat' apply And.intro) <;> first | trivial | exact Nat.le_of_ble_eq_true rfl | rfl), rfl, (by (repeat' apply And.intro) <;> first | trivial | exact Nat.le_of_ble_eq_true rfl | rfl), by rw [he]; exact ⟨CoC.agg ⟨CoP.refl _, co_nilZ, trivial⟩, CoC.refl _, trivial⟩⟩
      · skip
        have h2 := r2
        have h2 := of_decide_eq_false h2
        try simp only [Int.toNat_natCast] at h2
        (iterate 4 refine rq rfl rfl rfl rfl (gff r2) ?_); (iterate 2 refine rq rfl rfl rfl rfl rfl ?_); refine rsplit rfl rfl (fun r3 => ?_) (fun r3 => ?_)
        · skip
          have h3 := r3
          have h3 := bif_f r2 h3
          have h3 := of_decide_eq_true h3
          try simp only [Int.toNat_natCast] at h3
          (iterate 3 refine rk rfl rfl rfl (gtf r3) ?_); refine rq rfl rfl rfl rfl rfl ?_ (hp := r3); refine rq rfl rfl rfl rfl rfl ?_; (iterate 4 refine rk rfl rfl rfl rfl ?_); (iterate 2 refine rq rfl rfl rfl rfl rfl ?_)
          (iterate 5 refine rk rfl rfl rfl rfl ?_); (iterate 2 refine rq rfl rfl rfl rfl rfl ?_); (iterate 3 refine rk rfl rfl rfl rfl ?_); (iterate 2 refine rq rfl rfl rfl rfl rfl ?_); (iterate 9 refine rk rfl rfl rfl rfl ?_)
          (iterate 2 refine rq rfl rfl rfl rfl rfl ?_); (iterate 10 refine rk rfl rfl rfl rfl ?_); refine rq rfl rfl rfl rfl rfl ?_; refine rg_nil ?_; show HW _ _ _ _ _; refine hw_cond _ rfl (fun _ => ?_) (fun e => by cases e)
          refine hw_seq ?_; refine hw_region (E := TrydE) Trydok ?_; refine rq rfl rfl rfl rfl rfl ?_; refine rs rfl rfl rfl rfl rfl ?_; refine rq rfl rfl rfl rfl rfl ?_; refine rg_nil ?_; show HW _ _ _ _ _; refine hw_ret ?_
          refine ⟨.inr rfl, ?_⟩
          have he := applyE_2 (mu := true) (i := i) (a := a) (b := b) hT hbe (by unfold badS; first | exact .inl (by omega) | exact .inr (.inl (by omega)) | exact .inr (.inr (.inl (by omega))) | exact .inr (.inr (.inr (.inl (by omega)))) | exact .inr (.inr (.inr (.inr (.inl (by omega))))) | exact .inr (.inr (.inr (.inr (.inr (.inl (by omega)))))) | exact .inr (.inr (.inr (.inr (.inr (.inr (.inl ⟨by first | assumption | simp_all, by omega⟩)))))) | exact .inr (.inr (.inr (.inr (.inr (.inr (.inr ⟨by first | assumption | simp_all, by omega⟩)))))))
          exact ⟨_, _, _, _, rfl, (by (repeat' apply And.intro) <;> first | trivial | exact Nat.le_of_ble_eq_true rfl | rfl), rfl, (by (repeat' apply And.intro) <;> first | trivial | exact Nat.le_of_ble_eq_true rfl | rfl), by rw [he]; exact ⟨CoC.agg ⟨CoP.refl _, co_nilZ, trivial⟩, CoC.refl _, trivial⟩⟩
        · skip
          have h3 := r3
          have h3 := bif_f r2 h3
          have h3 := of_decide_eq_false h3
          try simp only [Int.toNat_natCast] at h3
          (iterate 3 refine rq rfl rfl rfl rfl (gff r3) ?_); (iterate 2 refine rq rfl rfl rfl rfl rfl ?_); refine rsplit rfl rfl (fun r4 => ?_) (fun r4 => ?_)
          · skip
            have h4 := r4
            have h4 := bif_f r3 h4
            have h4 := of_decide_eq_true h4
            try simp only [Int.toNat_natCast] at h4
            (iterate 4 refine rk rfl rfl rfl (gtf r4) ?_); refine rq rfl rfl rfl rfl rfl ?_ (hp := r4); refine rq rfl rfl rfl rfl rfl ?_; (iterate 5 refine rk rfl rfl rfl rfl ?_); (iterate 2 refine rq rfl rfl rfl rfl rfl ?_)
            (iterate 3 refine rk rfl rfl rfl rfl ?_); (iterate 2 refine rq rfl rfl rfl rfl rfl ?_); (iterate 9 refine rk rfl rfl rfl rfl ?_); (iterate 2 refine rq rfl rfl rfl rfl rfl ?_); (iterate 10 refine rk rfl rfl rfl rfl ?_)
            refine rq rfl rfl rfl rfl rfl ?_; refine rg_nil ?_; show HW _ _ _ _ _; refine hw_cond _ rfl (fun _ => ?_) (fun e => by cases e); refine hw_seq ?_; refine hw_region (E := TrydE) Trydok ?_; refine rq rfl rfl rfl rfl rfl ?_
            refine rs rfl rfl rfl rfl rfl ?_; refine rq rfl rfl rfl rfl rfl ?_; refine rg_nil ?_; show HW _ _ _ _ _; refine hw_ret ?_; refine ⟨.inr rfl, ?_⟩
            have he := applyE_2 (mu := true) (i := i) (a := a) (b := b) hT hbe (by unfold badS; first | exact .inl (by omega) | exact .inr (.inl (by omega)) | exact .inr (.inr (.inl (by omega))) | exact .inr (.inr (.inr (.inl (by omega)))) | exact .inr (.inr (.inr (.inr (.inl (by omega))))) | exact .inr (.inr (.inr (.inr (.inr (.inl (by omega)))))) | exact .inr (.inr (.inr (.inr (.inr (.inr (.inl ⟨by first | assumption | simp_all, by omega⟩)))))) | exact .inr (.inr (.inr (.inr (.inr (.inr (.inr ⟨by first | assumption | simp_all, by omega⟩)))))))
            exact ⟨_, _, _, _, rfl, (by (repeat' apply And.intro) <;> first | trivial | exact Nat.le_of_ble_eq_true rfl | rfl), rfl, (by (repeat' apply And.intro) <;> first | trivial | exact Nat.le_of_ble_eq_true rfl | rfl), by rw [he]; exact ⟨CoC.agg ⟨CoP.refl _, co_nilZ, trivial⟩, CoC.refl _, trivial⟩⟩
          · skip
            have h4 := r4
            have h4 := bif_f r3 h4
            have h4 := of_decide_eq_false h4
            try simp only [Int.toNat_natCast] at h4
            (iterate 4 refine rq rfl rfl rfl rfl (gff r4) ?_); (iterate 2 refine rq rfl rfl rfl rfl rfl ?_); refine rsplit rfl rfl (fun r5 => ?_) (fun r5 => ?_)
            · skip
              have h5 := r5
              have h5 := bif_f r4 h5
              have h5 := of_decide_eq_true h5
              try simp only [Int.toNat_natCast] at h5
              (iterate 5 refine rk rfl rfl rfl (gtf r5) ?_); refine rq rfl rfl rfl rfl rfl ?_ (hp := r5); refine rq rfl rfl rfl rfl rfl ?_; (iterate 3 refine rk rfl rfl rfl rfl ?_); (iterate 2 refine rq rfl rfl rfl rfl rfl ?_)
              (iterate 9 refine rk rfl rfl rfl rfl ?_); (iterate 2 refine rq rfl rfl rfl rfl rfl ?_); (iterate 10 refine rk rfl rfl rfl rfl ?_); refine rq rfl rfl rfl rfl rfl ?_; refine rg_nil ?_; show HW _ _ _ _ _
              refine hw_cond _ rfl (fun _ => ?_) (fun e => by cases e); refine hw_seq ?_; refine hw_region (E := TrydE) Trydok ?_; refine rq rfl rfl rfl rfl rfl ?_; refine rs rfl rfl rfl rfl rfl ?_; refine rq rfl rfl rfl rfl rfl ?_
              refine rg_nil ?_; show HW _ _ _ _ _; refine hw_ret ?_; refine ⟨.inr rfl, ?_⟩
              have he := applyE_2 (mu := true) (i := i) (a := a) (b := b) hT hbe (by unfold badS; first | exact .inl (by omega) | exact .inr (.inl (by omega)) | exact .inr (.inr (.inl (by omega))) | exact .inr (.inr (.inr (.inl (by omega)))) | exact .inr (.inr (.inr (.inr (.inl (by omega))))) | exact .inr (.inr (.inr (.inr (.inr (.inl (by omega)))))) | exact .inr (.inr (.inr (.inr (.inr (.inr (.inl ⟨by first | assumption | simp_all, by omega⟩)))))) | exact .inr (.inr (.inr (.inr (.inr (.inr (.inr ⟨by first | assumption | simp_all, by omega⟩)))))))
              exact ⟨_, _, _, _, rfl, (by (repeat' apply And.intro) <;> first | trivial | exact Nat.le_of_ble_eq_true rfl | rfl), rfl, (by (repeat' apply And.intro) <;> first | trivial | exact Nat.le_of_ble_eq_true rfl | rfl), by rw [he]; exact ⟨CoC.agg ⟨CoP.refl _, co_nilZ, trivial⟩, CoC.refl _, trivial⟩⟩
            · skip
              have h5 := r5
              have h5 := bif_f r4 h5
              have h5 := of_decide_eq_false h5
              try simp only [Int.toNat_natCast] at h5
              (iterate 5 refine rq rfl rfl rfl rfl (gff r5) ?_); (iterate 2 refine rq rfl rfl rfl rfl rfl ?_); refine rsplit rfl rfl (fun r6 => ?_) (fun r6 => ?_)
              · skip
                have h6 := r6
                have h6 := bif_f r5 h6
                have h6 := of_decide_eq_true h6
                try simp only [Int.toNat_natCast] at h6
                (iterate 3 refine rk rfl rfl rfl (gtf r6) ?_); refine rq rfl rfl rfl rfl rfl ?_ (hp := r6); refine rq rfl rfl rfl rfl rfl ?_; (iterate 9 refine rk rfl rfl rfl rfl ?_); (iterate 2 refine rq rfl rfl rfl rfl rfl ?_)
                (iterate 10 refine rk rfl rfl rfl rfl ?_); refine rq rfl rfl rfl rfl rfl ?_; refine rg_nil ?_; show HW _ _ _ _ _; refine hw_cond _ rfl (fun _ => ?_) (fun e => by cases e); refine hw_seq ?_
                refine hw_region (E := TrydE) Trydok ?_; refine rq rfl rfl rfl rfl rfl ?_; refine rs rfl rfl rfl rfl rfl ?_; refine rq rfl rfl rfl rfl rfl ?_; refine rg_nil ?_; show HW _ _ _ _ _; refine hw_ret ?_
                refine ⟨.inr rfl, ?_⟩
                have he := applyE_2 (mu := true) (i := i) (a := a) (b := b) hT hbe (by unfold badS; first | exact .inl (by omega) | exact .inr (.inl (by omega)) | exact .inr (.inr (.inl (by omega))) | exact .inr (.inr (.inr (.inl (by omega)))) | exact .inr (.inr (.inr (.inr (.inl (by omega))))) | exact .inr (.inr (.inr (.inr (.inr (.inl (by omega)))))) | exact .inr (.inr (.inr (.inr (.inr (.inr (.inl ⟨by first | assumption | simp_all, by omega⟩)))))) | exact .inr (.inr (.inr (.inr (.inr (.inr (.inr ⟨by first | assumption | simp_all, by omega⟩)))))))
                exact ⟨_, _, _, _, rfl, (by (repeat' apply And.intro) <;> first | trivial | exact Nat.le_of_ble_eq_true rfl | rfl), rfl, (by (repeat' apply And.intro) <;> first | trivial | exact Nat.le_of_ble_eq_true rfl | rfl), by rw [he]; exact ⟨CoC.agg ⟨CoP.refl _, co_nilZ, trivial⟩, CoC.refl _, trivial⟩⟩
              · skip
                have h6 := r6
                have h6 := bif_f r5 h6
                have h6 := of_decide_eq_false h6
                try simp only [Int.toNat_natCast] at h6
                (iterate 3 refine rq rfl rfl rfl rfl (gff r6) ?_); (iterate 2 refine rq rfl rfl rfl rfl rfl ?_); refine rsplit rfl rfl (fun r7 => ?_) (fun r7 => ?_)
                · skip
                  have h7 := r7
                  have h7 := bif_f r6 h7
                  have h7 := of_decide_eq_true h7
                  try simp only [Int.toNat_natCast] at h7
                  (iterate 3 refine rk rfl rfl rfl (gtf r7) ?_); (iterate 5 refine rk rfl rfl rfl rfl ?_); refine rk rfl rfl rfl (gtf r7) ?_; refine rq rfl rfl rfl rfl rfl ?_ (hp := r7); refine rq rfl rfl rfl rfl rfl ?_
                  (iterate 10 refine rk rfl rfl rfl rfl ?_); refine rq rfl rfl rfl rfl rfl ?_; refine rg_nil ?_; show HW _ _ _ _ _; refine hw_cond _ rfl (fun _ => ?_) (fun e => by cases e); refine hw_seq ?_
                  refine hw_region (E := TrydE) Trydok ?_; refine rq rfl rfl rfl rfl rfl ?_; refine rs rfl rfl rfl rfl rfl ?_; refine rq rfl rfl rfl rfl rfl ?_; refine rg_nil ?_; show HW _ _ _ _ _; refine hw_ret ?_
                  refine ⟨.inr rfl, ?_⟩
                  have he := applyE_2 (mu := true) (i := i) (a := a) (b := b) hT hbe (by unfold badS; first | exact .inl (by omega) | exact .inr (.inl (by omega)) | exact .inr (.inr (.inl (by omega))) | exact .inr (.inr (.inr (.inl (by omega)))) | exact .inr (.inr (.inr (.inr (.inl (by omega))))) | exact .inr (.inr (.inr (.inr (.inr (.inl (by omega)))))) | exact .inr (.inr (.inr (.inr (.inr (.inr (.inl ⟨by first | assumption | simp_all, by omega⟩)))))) | exact .inr (.inr (.inr (.inr (.inr (.inr (.inr ⟨by first | assumption | simp_all, by omega⟩)))))))
                  exact ⟨_, _, _, _, rfl, (by (repeat' apply And.intro) <;> first | trivial | exact Nat.le_of_ble_eq_true rfl | rfl), rfl, (by (repeat' apply And.intro) <;> first | trivial | exact Nat.le_of_ble_eq_true rfl | rfl), by rw [he]; exact ⟨CoC.agg ⟨CoP.refl _, co_nilZ, trivial⟩, CoC.refl _, trivial⟩⟩
                · skip
                  have h7 := r7
                  have h7 := bif_f r6 h7
                  have h7 := of_decide_eq_false h7
                  try simp only [Int.toNat_natCast] at h7
                  (iterate 3 refine rq rfl rfl rfl rfl (gff r7) ?_); (iterate 5 refine rq rfl rfl rfl rfl rfl ?_); refine rq rfl rfl rfl rfl (gff r7) ?_; (iterate 2 refine rq rfl rfl rfl rfl rfl ?_)
                  refine rsplit rfl rfl (fun r8 => ?_) (fun r8 => ?_)
                  · skip
                    have h8 := r8
                    have h8 := bif_f r7 h8
                    have h8 := of_decide_eq_true h8
                    try simp only [Int.toNat_natCast] at h8
                    (iterate 4 refine rk rfl rfl rfl (gtf r8) ?_); (iterate 5 refine rk rfl rfl rfl rfl ?_); refine rk rfl rfl rfl (gtf r8) ?_; refine rq rfl rfl rfl rfl rfl ?_ (hp := r8); refine rg_nil ?_; show HW _ _ _ _ _
                    refine hw_cond _ rfl (fun _ => ?_) (fun e => by cases e); refine hw_seq ?_; refine hw_region (E := TrydE) Trydok ?_; refine rq rfl rfl rfl rfl rfl ?_; refine rs rfl rfl rfl rfl rfl ?_
                    refine rq rfl rfl rfl rfl rfl ?_; refine rg_nil ?_; show HW _ _ _ _ _; refine hw_ret ?_; refine ⟨.inr rfl, ?_⟩
                    have he := applyE_2 (mu := true) (i := i) (a := a) (b := b) hT hbe (by unfold badS; first | exact .inl (by omega) | exact .inr (.inl (by omega)) | exact .inr (.inr (.inl (by omega))) | exact .inr (.inr (.inr (.inl (by omega)))) | exact .inr (.inr (.inr (.inr (.inl (by omega))))) | exact .inr (.inr (.inr (.inr (.inr (.inl (by omega)))))) | exact .inr (.inr (.inr (.inr (.inr (.inr (.inl ⟨by first | assumption | simp_all, by omega⟩)))))) | exact .inr (.inr (.inr (.inr (.inr (.inr (.inr ⟨by first | assumption | simp_all, by omega⟩)))))))
                    exact ⟨_, _, _, _, rfl, (by (repeat' apply And.intro) <;> first | trivial | exact Nat.le_of_ble_eq_true rfl | rfl), rfl, (by (repeat' apply And.intro) <;> first | trivial | exact Nat.le_of_ble_eq_true rfl | rfl), by rw [he]; exact ⟨CoC.agg ⟨CoP.refl _, co_nilZ, trivial⟩, CoC.refl _, trivial⟩⟩
                  · skip
                    have h8 := r8
                    have h8 := bif_f r7 h8
                    have h8 := of_decide_eq_false h8
                    try simp only [Int.toNat_natCast] at h8
                    (iterate 4 refine rq rfl rfl rfl rfl (gff r8) ?_); (iterate 5 refine rk rfl rfl rfl rfl ?_); refine rq rfl rfl rfl rfl (gff r8) ?_; refine rq rfl rfl rfl rfl rfl ?_; refine rg_nil ?_; show HW _ _ _ _ _
                    refine hw_cond _ rfl (fun e => Bool.noConfusion ((bif_fk r8 rfl).symm.trans e)) (fun _ => ?_); refine hw_skip ?_; show HW _ _ _ _ _; refine hw_seq ?_
                    have hnb : ¬ badS l p m true i a b := by
                      unfold badS
                      rintro (h | h | h | h | h | h | ⟨h, h2⟩ | ⟨h, h2⟩) <;> first | omega | cases h
                    have hap := applyE_3 (mu := true) (i := i) (a := a) (b := b) hT hbe hnb
                    have ha : a.toNat < l.length := by omega
                    have hb : b.toNat < l.length := by omega
                    have hra := hrow _ ha
                    have hrb := hrow _ hb
                    have hi : i.toNat < m.length := by omega
                    refine hw_region (E := TrydE) Trydok ?_; refine rm 3 rfl rfl rfl rfl rfl rfl ?_; refine rg_nil ?_; show HW _ _ _ _ _; (iterate 2 refine hw_seq ?_); refine hw_region (E := TrydE) Trydok ?_
                    (iterate 2 refine rq rfl rfl rfl rfl rfl ?_); refine rg_nil ?_; show HW _ _ _ _ _; refine hw_cond _ rfl (fun _ => ?_) (fun e => by cases e); (iterate 2 refine hw_seq ?_)
                    refine hw_draw (E := TrydE) Trydok Trydmixed [0, 1, 2, 3, 4, 5, 6, 7, 8, 9, 10, 11, 12, 13, 14, 15, 16, 17, 18, 19] ?_; (iterate 18 refine rq rfl rfl rfl rfl rfl ?_)
                    refine rc rfl rfl rfl rfl rfl rfl good57 (cRAgree (l.getD a.toNat default) (l.getD b.toNat default) (m.getD i.toNat default).lhs (by omega) (by omega)) (CoL.refl _) rfl rfl ?_; refine rq rfl rfl rfl rfl rfl ?_
                    refine rg_nil ?_; refine ⟨by kernel_rfl, ?_⟩; show HW _ _ _ _ _; refine hw_cond _ rfl (fun r9 => ?_) (fun r9 => ?_)
                    · skip
                      have h9 := r9
                      have h9 := not_t h9
                      refine hw_seq ?_; refine hw_region (E := TrydE) Trydok ?_; refine rq rfl rfl rfl rfl rfl ?_; refine rs rfl rfl rfl rfl rfl ?_; refine rq rfl rfl rfl rfl rfl ?_; refine rg_nil ?_; show HW _ _ _ _ _
                      refine hw_ret ?_; refine ⟨.inr rfl, ?_⟩
                      have he := hap.trans (show mvE n l a.toNat b.toNat (m.getD i.toNat default) = (0, [], 1) from if_neg (Bool.eq_false_iff.1 (by assumption)))
                      exact ⟨_, _, _, _, rfl, (by (repeat' apply And.intro) <;> first | trivial | exact Nat.le_of_ble_eq_true rfl | rfl), rfl, (by (repeat' apply And.intro) <;> first | trivial | exact Nat.le_of_ble_eq_true rfl | rfl), by rw [he]; exact ⟨CoC.agg ⟨CoP.refl _, co_nilZ, trivial⟩, CoC.refl _, trivial⟩⟩
                    · skip
                      have h9 := r9
                      have h9 := not_f h9
                      refine hw_skip ?_; show HW _ _ _ _ _; refine hw_draw (E := TrydE) Trydok Trydmixed [0, 1, 2, 3, 4, 5, 6, 7, 8, 9, 10, 11] ?_; (iterate 10 refine rq rfl rfl rfl rfl rfl ?_)
                      refine rc rfl rfl rfl rfl rfl rfl good58 (cRAdd n l (m.getD i.toNat default) a.toNat b.toNat hn0 hn16 hrow (by omega) ha hb) (⟨CoC.refl _, CoC.refl _, cci (by omega), cci (by omega), trivial⟩) rfl rfl ?_
                      refine rs rfl rfl rfl rfl rfl ?_; refine rg_nil ?_; refine ⟨by kernel_rfl, ?_⟩; show HW _ _ _ _ _; (iterate 2 refine hw_seq ?_); refine hw_region (E := TrydE) Trydok ?_
                      (iterate 4 refine rq rfl rfl rfl rfl rfl ?_); refine rg_nil ?_; show HW _ _ _ _ _; refine hw_cond _ rfl (fun r10 => ?_) (fun r10 => ?_)
                      · skip
                        have h10 := r10
                        have h10 := of_decide_eq_true h10
                        try simp only [Int.toNat_natCast] at h10
                        refine hw_seq ?_; refine hw_region (E := TrydE) Trydok ?_; refine rq rfl rfl rfl rfl rfl ?_; refine rs rfl rfl rfl rfl rfl ?_; refine rq rfl rfl rfl rfl rfl ?_; refine rg_nil ?_; show HW _ _ _ _ _
                        refine hw_ret ?_; refine ⟨.inr rfl, ?_⟩
                        have he := hap.trans (show mvE n l a.toNat b.toNat (m.getD i.toNat default) = (0, [], 3) from (if_pos (by assumption)).trans (if_pos (by omega)))
                        exact ⟨_, _, _, _, rfl, (by (repeat' apply And.intro) <;> first | trivial | exact Nat.le_of_ble_eq_true rfl | rfl), rfl, (by (repeat' apply And.intro) <;> first | trivial | exact Nat.le_of_ble_eq_true rfl | rfl), by rw [he]; exact ⟨CoC.agg ⟨CoP.refl _, co_nilZ, trivial⟩, CoC.refl _, trivial⟩⟩
                      · skip
                        have h10 := r10
                        have h10 := of_decide_eq_false h10
                        try simp only [Int.toNat_natCast] at h10
                        refine hw_skip ?_; show HW _ _ _ _ _; refine hw_seq ?_; refine hw_region (E := TrydE) Trydok ?_; refine rq rfl rfl rfl rfl rfl ?_; refine rs rfl rfl rfl rfl rfl ?_; refine rq rfl rfl rfl rfl rfl ?_
                        refine rg_nil ?_; show HW _ _ _ _ _; refine hw_ret ?_; refine ⟨.inr rfl, ?_⟩
                        have he := hap.trans (show mvE n l a.toNat b.toNat (m.getD i.toNat default) = (n, canon (l ++ [mixZ (l.getD a.toNat default) (l.getD b.toNat default) ((m.getD i.toNat default).lhs ||| (m.getD i.toNat default).rhs)]), 0) from (if_pos (by assumption)).trans (if_neg (by omega)))
                        exact ⟨_, _, _, _, rfl, (by (repeat' apply And.intro) <;> first | trivial | exact Nat.le_of_ble_eq_true rfl | rfl), rfl, (by (repeat' apply And.intro) <;> first | trivial | exact Nat.le_of_ble_eq_true rfl | rfl), by rw [he]; exact CoL.refl _⟩
theorem cRApplyF (n : Int) (l : List Rw) (p m : List Fd) (i a b : Int) : HPure Tryd.prog 34 [pT n l, pP (fdl p), pP (fdl m), .agg [.raw (.bool false), .raw (.int .i64 i), .raw (.int .i64 a), .raw (.int .i64 b)]] (prOf [pT (applyE n l p m false i a b).1 (applyE n l p m false i a b).2.1, pI (applyE n l p m false i a b).2.2]) := by
  refine hpure_of (nt := 158) Trydok Tryd.func34 rfl rfl (Nat.le_of_ble_eq_true rfl) ?_; refine hw_seq ?_; refine hw_region (E := TrydE) Trydok ?_; refine rm 0 rfl rfl rfl rfl rfl rfl ?_; refine rm 1 rfl rfl rfl rfl rfl rfl ?_
  refine rm 2 rfl rfl rfl rfl rfl rfl ?_; refine rq rfl rfl rfl rfl rfl ?_; refine rg_nil ?_; show HW _ _ _ _ _; (iterate 2 refine hw_seq ?_); refine hw_region (E := TrydE) Trydok ?_; refine rq rfl rfl rfl rfl rfl ?_
  refine rc rfl rfl rfl rfl rfl rfl good15 (cRTValid n l) (CoL.refl _) rfl rfl ?_; refine rq rfl rfl rfl rfl rfl ?_; refine rg_nil ?_; show HW _ _ _ _ _; refine hw_cond _ rfl (fun r0 => ?_) (fun r0 => ?_)
  · skip
    have h0 := r0
    have h0 := not_t h0
    refine hw_seq ?_; refine hw_region (E := TrydE) Trydok ?_; refine rq rfl rfl rfl rfl rfl ?_; refine rs rfl rfl rfl rfl rfl ?_; refine rq rfl rfl rfl rfl rfl ?_; refine rg_nil ?_; show HW _ _ _ _ _; refine hw_ret ?_
    refine ⟨.inr rfl, ?_⟩
    have he := applyE_0 (n := n) (l := l) (p := p) (m := m) (mu := false) (i := i) (a := a) (b := b) (by simp_all)
    exact ⟨_, _, _, _, rfl, (by (repeat' apply And.intro) <;> first | trivial | exact Nat.le_of_ble_eq_true rfl | rfl), rfl, (by (repeat' apply And.intro) <;> first | trivial | exact Nat.le_of_ble_eq_true rfl | rfl), by rw [he]; exact ⟨CoC.agg ⟨CoP.refl _, co_nilZ, trivial⟩, CoC.refl _, trivial⟩⟩
  · skip
    have h0 := r0
    have h0 := not_f h0
    have hT : tok n l = true := by simp_all
    obtain ⟨hn0, hn16, hl256, hrow⟩ := tok_get hT
    refine hw_skip ?_; show HW _ _ _ _ _; (iterate 2 refine hw_seq ?_); refine hw_region (E := TrydE) Trydok ?_; (iterate 4 refine rq rfl rfl rfl rfl rfl ?_)
    refine rc rfl rfl rfl rfl rfl rfl good51 (cRBValid n p m) (CoL.refl _) rfl rfl ?_; refine rq rfl rfl rfl rfl rfl ?_; refine rg_nil ?_; show HW _ _ _ _ _; refine hw_seq ?_; refine hw_region (E := TrydE) Trydok ?_
    (iterate 2 refine rq rfl rfl rfl rfl rfl ?_); refine rg_nil ?_; show HW _ _ _ _ _; refine hw_cond _ rfl (fun r1 => ?_) (fun r1 => ?_)
    · skip
      have h1 := r1
      have h1 := of_decide_eq_false (not_t h1)
      try simp only [Int.toNat_natCast] at h1
      refine hw_seq ?_; refine hw_region (E := TrydE) Trydok ?_; (iterate 2 refine rq rfl rfl rfl rfl rfl ?_); refine rs rfl rfl rfl rfl rfl ?_; refine rq rfl rfl rfl rfl rfl ?_; refine rg_nil ?_; show HW _ _ _ _ _; refine hw_ret ?_
      refine ⟨.inr rfl, ?_⟩
      have he := applyE_1 (mu := false) (i := i) (a := a) (b := b) hT (by assumption)
      exact ⟨_, _, _, _, rfl, (by (repeat' apply And.intro) <;> first | trivial | exact Nat.le_of_ble_eq_true rfl | rfl), rfl, (by (repeat' apply And.intro) <;> first | trivial | exact Nat.le_of_ble_eq_true rfl | rfl), by rw [he]; exact ⟨CoC.agg ⟨CoP.refl _, co_nilZ, trivial⟩, CoC.refl _, trivial⟩⟩
    · skip
      have h1 := r1
      have h1 := of_decide_eq_true (not_f h1)
      try simp only [Int.toNat_natCast] at h1
      have hbe : bErr n p m = 0 := by assumption
      obtain ⟨_, _, hpl, hpa, hml, _⟩ := bErr_ok hbe
      refine hw_skip ?_; show HW _ _ _ _ _; refine hw_seq ?_; refine hw_region (E := TrydE) Trydok ?_; (iterate 4 refine rq rfl rfl rfl rfl rfl ?_); refine rg_nil ?_; show HW _ _ _ _ _; (iterate 2 refine hw_seq ?_)
      refine hw_region (E := TrydE) Trydok ?_; (iterate 4 refine rq rfl rfl rfl rfl rfl ?_); refine rsplit rfl rfl (fun r2 => ?_) (fun r2 => ?_)
      · skip
        have h2 := r2
        have h2 := of_decide_eq_true h2
        try simp only [Int.toNat_natCast] at h2
        (iterate 4 refine rk rfl rfl rfl (gtf r2) ?_); refine rq rfl rfl rfl rfl rfl ?_ (hp := r2); refine rq rfl rfl rfl rfl rfl ?_; (iterate 3 refine rk rfl rfl rfl rfl ?_); (iterate 2 refine rq rfl rfl rfl rfl rfl ?_)
        (iterate 4 refine rk rfl rfl rfl rfl ?_); (iterate 2 refine rq rfl rfl rfl rfl rfl ?_); (iterate 5 refine rk rfl rfl rfl rfl ?_); (iterate 2 refine rq rfl rfl rfl rfl rfl ?_); (iterate 3 refine rk rfl rfl rfl rfl ?_)
        (iterate 2 refine rq rfl rfl rfl rfl rfl ?_); (iterate 9 refine rk rfl rfl rfl rfl ?_); (iterate 2 refine rq rfl rfl rfl rfl rfl ?_); (iterate 10 refine rk rfl rfl rfl rfl ?_); refine rq rfl rfl rfl rfl rfl ?_
        refine rg_nil ?_; show HW _ _ _ _ _; refine hw_cond _ rfl (fun _ => ?_) (fun e => by cases e); refine hw_seq ?_; refine hw_region (E := TrydE) Trydok ?_; refine rq rfl rfl rfl rfl rfl ?_; refine rs rfl rfl rfl rfl rfl ?_
        refine rq rfl rfl rfl rfl rfl ?_; refine rg_nil ?_; show HW _ _ _ _ _; refine hw_ret ?_; refine ⟨.inr rfl, ?_⟩
        have he := applyE_2 (mu := false) (i := i) (a := a) (b := b) hT hbe (by unfold badS; first | exact .inl (by omega) | exact .inr (.inl (by omega)) | exact .inr (.inr (.inl (by omega))) | exact .inr (.inr (.inr (.inl (by omega)))) | exact .inr (.inr (.inr (.inr (.inl (by omega))))) | exact .inr (.inr (.inr (.inr (.inr (.inl (by omega)))))) | exact .inr (.inr (.inr (.inr (.inr (.inr (.inl ⟨by first | assumption | simp_all, by omega⟩)))))) | exact .inr (.inr (.inr (.inr (.inr (.inr (.inr ⟨by first | assumption | simp_all, by omega⟩)))))))
        exact ⟨_, _, _, _, rfl, (by (repeat' apply And.intro) <;> first | trivial | exact Nat.le_of_ble_eq_true rfl | rfl), rfl, (by (repeat' apply And.intro) <;> first | trivial | exact Nat.le_of_ble_eq_true rfl | rfl), by rw [he]; exact ⟨CoC.agg ⟨CoP.refl _, co_nilZ, trivial⟩, CoC.refl _, trivial⟩⟩
      · skip
        have h2 := r2
        have h2 := of_decide_eq_false h2
        try simp only [Int.toNat_natCast] at h2
        (iterate 4 refine rq rfl rfl rfl rfl (gff r2) ?_); (iterate 2 refine rq rfl rfl rfl rfl rfl ?_); refine rsplit rfl rfl (fun r3 => ?_) (fun r3 => ?_)
        · skip
          have h3 := r3
          have h3 := bif_f r2 h3
          have h3 := of_decide_eq_true h3
          try simp only [Int.toNat_natCast] at h3
          (iterate 3 refine rk rfl rfl rfl (gtf r3) ?_); refine rq rfl rfl rfl rfl rfl ?_ (hp := r3); refine rq rfl rfl rfl rfl rfl ?_; (iterate 4 refine rk rfl rfl rfl rfl ?_); (iterate 2 refine rq rfl rfl rfl rfl rfl ?_)
          (iterate 5 refine rk rfl rfl rfl rfl ?_); (iterate 2 refine rq rfl rfl rfl rfl rfl ?_); (iterate 3 refine rk rfl rfl rfl rfl ?_); (iterate 2 refine rq rfl rfl rfl rfl rfl ?_); (iterate 9 refine rk rfl rfl rfl rfl ?_)
          (iterate 2 refine rq rfl rfl rfl rfl rfl ?_); (iterate 10 refine rk rfl rfl rfl rfl ?_); refine rq rfl rfl rfl rfl rfl ?_; refine rg_nil ?_; show HW _ _ _ _ _; refine hw_cond _ rfl (fun _ => ?_) (fun e => by cases e)
          refine hw_seq ?_; refine hw_region (E := TrydE) Trydok ?_; refine rq rfl rfl rfl rfl rfl ?_; refine rs rfl rfl rfl rfl rfl ?_; refine rq rfl rfl rfl rfl rfl ?_; refine rg_nil ?_; show HW _ _ _ _ _; refine hw_ret ?_
          refine ⟨.inr rfl, ?_⟩
          have he := applyE_2 (mu := false) (i := i) (a := a) (b := b) hT hbe (by unfold badS; first | exact .inl (by omega) | exact .inr (.inl (by omega)) | exact .inr (.inr (.inl (by omega))) | exact .inr (.inr (.inr (.inl (by omega)))) | exact .inr (.inr (.inr (.inr (.inl (by omega))))) | exact .inr (.inr (.inr (.inr (.inr (.inl (by omega)))))) | exact .inr (.inr (.inr (.inr (.inr (.inr (.inl ⟨by first | assumption | simp_all, by omega⟩)))))) | exact .inr (.inr (.inr (.inr (.inr (.inr (.inr ⟨by first | assumption | simp_all, by omega⟩)))))))
          exact ⟨_, _, _, _, rfl, (by (repeat' apply And.intro) <;> first | trivial | exact Nat.le_of_ble_eq_true rfl | rfl), rfl, (by (repeat' apply And.intro) <;> first | trivial | exact Nat.le_of_ble_eq_true rfl | rfl), by rw [he]; exact ⟨CoC.agg ⟨CoP.refl _, co_nilZ, trivial⟩, CoC.refl _, trivial⟩⟩
        · skip
          have h3 := r3
          have h3 := bif_f r2 h3
          have h3 := of_decide_eq_false h3
          try simp only [Int.toNat_natCast] at h3
          (iterate 3 refine rq rfl rfl rfl rfl (gff r3) ?_); (iterate 2 refine rq rfl rfl rfl rfl rfl ?_); refine rsplit rfl rfl (fun r4 => ?_) (fun r4 => ?_)
          · skip
            have h4 := r4
            have h4 := bif_f r3 h4
            have h4 := of_decide_eq_true h4
            try simp only [Int.toNat_natCast] at h4
            (iterate 4 refine rk rfl rfl rfl (gtf r4) ?_); refine rq rfl rfl rfl rfl rfl ?_ (hp := r4); refine rq rfl rfl rfl rfl rfl ?_; (iterate 5 refine rk rfl rfl rfl rfl ?_); (iterate 2 refine rq rfl rfl rfl rfl rfl ?_)
            (iterate 3 refine rk rfl rfl rfl rfl ?_); (iterate 2 refine rq rfl rfl rfl rfl rfl ?_); (iterate 9 refine rk rfl rfl rfl rfl ?_); (iterate 2 refine rq rfl rfl rfl rfl rfl ?_); (iterate 10 refine rk rfl rfl rfl rfl ?_)
            refine rq rfl rfl rfl rfl rfl ?_; refine rg_nil ?_; show HW _ _ _ _ _; refine hw_cond _ rfl (fun _ => ?_) (fun e => by cases e); refine hw_seq ?_; refine hw_region (E := TrydE) Trydok ?_; refine rq rfl rfl rfl rfl rfl ?_
            refine rs rfl rfl rfl rfl rfl ?_; refine rq rfl rfl rfl rfl rfl ?_; refine rg_nil ?_; show HW _ _ _ _ _; refine hw_ret ?_; refine ⟨.inr rfl, ?_⟩
            have he := applyE_2 (mu := false) (i := i) (a := a) (b := b) hT hbe (by unfold badS; first | exact .inl (by omega) | exact .inr (.inl (by omega)) | exact .inr (.inr (.inl (by omega))) | exact .inr (.inr (.inr (.inl (by omega)))) | exact .inr (.inr (.inr (.inr (.inl (by omega))))) | exact .inr (.inr (.inr (.inr (.inr (.inl (by omega)))))) | exact .inr (.inr (.inr (.inr (.inr (.inr (.inl ⟨by first | assumption | simp_all, by omega⟩)))))) | exact .inr (.inr (.inr (.inr (.inr (.inr (.inr ⟨by first | assumption | simp_all, by omega⟩)))))))
            exact ⟨_, _, _, _, rfl, (by (repeat' apply And.intro) <;> first | trivial | exact Nat.le_of_ble_eq_true rfl | rfl), rfl, (by (repeat' apply And.intro) <;> first | trivial | exact Nat.le_of_ble_eq_true rfl | rfl), by rw [he]; exact ⟨CoC.agg ⟨CoP.refl _, co_nilZ, trivial⟩, CoC.refl _, trivial⟩⟩
          · skip
            have h4 := r4
            have h4 := bif_f r3 h4
            have h4 := of_decide_eq_false h4
            try simp only [Int.toNat_natCast] at h4
            (iterate 4 refine rq rfl rfl rfl rfl (gff r4) ?_); (iterate 2 refine rq rfl rfl rfl rfl rfl ?_); refine rsplit rfl rfl (fun r5 => ?_) (fun r5 => ?_)
            · skip
              have h5 := r5
              have h5 := bif_f r4 h5
              have h5 := of_decide_eq_true h5
              try simp only [Int.toNat_natCast] at h5
              (iterate 5 refine rk rfl rfl rfl (gtf r5) ?_); refine rq rfl rfl rfl rfl rfl ?_ (hp := r5); refine rq rfl rfl rfl rfl rfl ?_; (iterate 3 refine rk rfl rfl rfl rfl ?_); (iterate 2 refine rq rfl rfl rfl rfl rfl ?_)
              (iterate 9 refine rk rfl rfl rfl rfl ?_); (iterate 2 refine rq rfl rfl rfl rfl rfl ?_); (iterate 10 refine rk rfl rfl rfl rfl ?_); refine rq rfl rfl rfl rfl rfl ?_; refine rg_nil ?_; show HW _ _ _ _ _
              refine hw_cond _ rfl (fun _ => ?_) (fun e => by cases e); refine hw_seq ?_; refine hw_region (E := TrydE) Trydok ?_; refine rq rfl rfl rfl rfl rfl ?_; refine rs rfl rfl rfl rfl rfl ?_; refine rq rfl rfl rfl rfl rfl ?_
              refine rg_nil ?_; show HW _ _ _ _ _; refine hw_ret ?_; refine ⟨.inr rfl, ?_⟩
              have he := applyE_2 (mu := false) (i := i) (a := a) (b := b) hT hbe (by unfold badS; first | exact .inl (by omega) | exact .inr (.inl (by omega)) | exact .inr (.inr (.inl (by omega))) | exact .inr (.inr (.inr (.inl (by omega)))) | exact .inr (.inr (.inr (.inr (.inl (by omega))))) | exact .inr (.inr (.inr (.inr (.inr (.inl (by omega)))))) | exact .inr (.inr (.inr (.inr (.inr (.inr (.inl ⟨by first | assumption | simp_all, by omega⟩)))))) | exact .inr (.inr (.inr (.inr (.inr (.inr (.inr ⟨by first | assumption | simp_all, by omega⟩)))))))
              exact ⟨_, _, _, _, rfl, (by (repeat' apply And.intro) <;> first | trivial | exact Nat.le_of_ble_eq_true rfl | rfl), rfl, (by (repeat' apply And.intro) <;> first | trivial | exact Nat.le_of_ble_eq_true rfl | rfl), by rw [he]; exact ⟨CoC.agg ⟨CoP.refl _, co_nilZ, trivial⟩, CoC.refl _, trivial⟩⟩
            · skip
              have h5 := r5
              have h5 := bif_f r4 h5
              have h5 := of_decide_eq_false h5
              try simp only [Int.toNat_natCast] at h5
              (iterate 5 refine rq rfl rfl rfl rfl (gff r5) ?_); (iterate 2 refine rq rfl rfl rfl rfl rfl ?_); refine rsplit rfl rfl (fun r6 => ?_) (fun r6 => ?_)
              · skip
                have h6 := r6
                have h6 := bif_f r5 h6
                have h6 := of_decide_eq_true h6
                try simp only [Int.toNat_natCast] at h6
                (iterate 3 refine rk rfl rfl rfl (gtf r6) ?_); refine rq rfl rfl rfl rfl rfl ?_ (hp := r6); refine rq rfl rfl rfl rfl rfl ?_; (iterate 9 refine rk rfl rfl rfl rfl ?_); (iterate 2 refine rq rfl rfl rfl rfl rfl ?_)
                (iterate 10 refine rk rfl rfl rfl rfl ?_); refine rq rfl rfl rfl rfl rfl ?_; refine rg_nil ?_; show HW _ _ _ _ _; refine hw_cond _ rfl (fun _ => ?_) (fun e => by cases e); refine hw_seq ?_
                refine hw_region (E := TrydE) Trydok ?_; refine rq rfl rfl rfl rfl rfl ?_; refine rs rfl rfl rfl rfl rfl ?_; refine rq rfl rfl rfl rfl rfl ?_; refine rg_nil ?_; show HW _ _ _ _ _; refine hw_ret ?_
                refine ⟨.inr rfl, ?_⟩
                have he := applyE_2 (mu := false) (i := i) (a := a) (b := b) hT hbe (by unfold badS; first | exact .inl (by omega) | exact .inr (.inl (by omega)) | exact .inr (.inr (.inl (by omega))) | exact .inr (.inr (.inr (.inl (by omega)))) | exact .inr (.inr (.inr (.inr (.inl (by omega))))) | exact .inr (.inr (.inr (.inr (.inr (.inl (by omega)))))) | exact .inr (.inr (.inr (.inr (.inr (.inr (.inl ⟨by first | assumption | simp_all, by omega⟩)))))) | exact .inr (.inr (.inr (.inr (.inr (.inr (.inr ⟨by first | assumption | simp_all, by omega⟩)))))))
                exact ⟨_, _, _, _, rfl, (by (repeat' apply And.intro) <;> first | trivial | exact Nat.le_of_ble_eq_true rfl | rfl), rfl, (by (repeat' apply And.intro) <;> first | trivial | exact Nat.le_of_ble_eq_true rfl | rfl), by rw [he]; exact ⟨CoC.agg ⟨CoP.refl _, co_nilZ, trivial⟩, CoC.refl _, trivial⟩⟩
              · skip
                have h6 := r6
                have h6 := bif_f r5 h6
                have h6 := of_decide_eq_false h6
                try simp only [Int.toNat_natCast] at h6
                (iterate 3 refine rq rfl rfl rfl rfl (gff r6) ?_); (iterate 2 refine rq rfl rfl rfl rfl rfl ?_); refine rsplit rfl rfl (fun r7 => ?_) (fun r7 => ?_)
                · skip
                  have h7 := r7
                  have h7 := bif_f r6 h7
                  have h7 := of_decide_eq_true h7
                  try simp only [Int.toNat_natCast] at h7
                  (iterate 3 refine rk rfl rfl rfl (gtf r7) ?_); (iterate 5 refine rk rfl rfl rfl rfl ?_); refine rk rfl rfl rfl (gtf r7) ?_; refine rq rfl rfl rfl rfl rfl ?_ (hp := r7); refine rq rfl rfl rfl rfl rfl ?_
                  (iterate 10 refine rk rfl rfl rfl rfl ?_); refine rq rfl rfl rfl rfl rfl ?_; refine rg_nil ?_; show HW _ _ _ _ _; refine hw_cond _ rfl (fun _ => ?_) (fun e => by cases e); refine hw_seq ?_
                  refine hw_region (E := TrydE) Trydok ?_; refine rq rfl rfl rfl rfl rfl ?_; refine rs rfl rfl rfl rfl rfl ?_; refine rq rfl rfl rfl rfl rfl ?_; refine rg_nil ?_; show HW _ _ _ _ _; refine hw_ret ?_
                  refine ⟨.inr rfl, ?_⟩
                  have he := applyE_2 (mu := false) (i := i) (a := a) (b := b) hT hbe (by unfold badS; first | exact .inl (by omega) | exact .inr (.inl (by omega)) | exact .inr (.inr (.inl (by omega))) | exact .inr (.inr (.inr (.inl (by omega)))) | exact .inr (.inr (.inr (.inr (.inl (by omega))))) | exact .inr (.inr (.inr (.inr (.inr (.inl (by omega)))))) | exact .inr (.inr (.inr (.inr (.inr (.inr (.inl ⟨by first | assumption | simp_all, by omega⟩)))))) | exact .inr (.inr (.inr (.inr (.inr (.inr (.inr ⟨by first | assumption | simp_all, by omega⟩)))))))
                  exact ⟨_, _, _, _, rfl, (by (repeat' apply And.intro) <;> first | trivial | exact Nat.le_of_ble_eq_true rfl | rfl), rfl, (by (repeat' apply And.intro) <;> first | trivial | exact Nat.le_of_ble_eq_true rfl | rfl), by rw [he]; exact ⟨CoC.agg ⟨CoP.refl _, co_nilZ, trivial⟩, CoC.refl _, trivial⟩⟩
                · skip
                  have h7 := r7
                  have h7 := bif_f r6 h7
                  have h7 := of_decide_eq_false h7
                  try simp only [Int.toNat_natCast] at h7
                  (iterate 3 refine rq rfl rfl rfl rfl (gff r7) ?_); (iterate 5 refine rk rfl rfl rfl rfl ?_); refine rq rfl rfl rfl rfl (gff r7) ?_; (iterate 2 refine rq rfl rfl rfl rfl rfl ?_)
                  (iterate 4 refine rq rfl rfl rfl rfl (gff (bif_fk r7 rfl)) ?_); (iterate 5 refine rq rfl rfl rfl rfl rfl ?_); refine rq rfl rfl rfl rfl (gff (bif_fk r7 rfl)) ?_; refine rq rfl rfl rfl rfl rfl ?_; refine rg_nil ?_
                  show HW _ _ _ _ _; refine hw_cond _ rfl (fun r8 => ?_) (fun r8 => ?_)
                  · skip
                    have h8 := r8
                    have h8 := bif_f (bif_fk r7 rfl) h8
                    have h8 := of_decide_eq_true h8
                    try simp only [Int.toNat_natCast] at h8
                    refine hw_seq ?_; refine hw_region (E := TrydE) Trydok ?_; refine rq rfl rfl rfl rfl rfl ?_; refine rs rfl rfl rfl rfl rfl ?_; refine rq rfl rfl rfl rfl rfl ?_; refine rg_nil ?_; show HW _ _ _ _ _
                    refine hw_ret ?_; refine ⟨.inr rfl, ?_⟩
                    have he := applyE_2 (mu := false) (i := i) (a := a) (b := b) hT hbe (by unfold badS; first | exact .inl (by omega) | exact .inr (.inl (by omega)) | exact .inr (.inr (.inl (by omega))) | exact .inr (.inr (.inr (.inl (by omega)))) | exact .inr (.inr (.inr (.inr (.inl (by omega))))) | exact .inr (.inr (.inr (.inr (.inr (.inl (by omega)))))) | exact .inr (.inr (.inr (.inr (.inr (.inr (.inl ⟨by first | assumption | simp_all, by omega⟩)))))) | exact .inr (.inr (.inr (.inr (.inr (.inr (.inr ⟨by first | assumption | simp_all, by omega⟩)))))))
                    exact ⟨_, _, _, _, rfl, (by (repeat' apply And.intro) <;> first | trivial | exact Nat.le_of_ble_eq_true rfl | rfl), rfl, (by (repeat' apply And.intro) <;> first | trivial | exact Nat.le_of_ble_eq_true rfl | rfl), by rw [he]; exact ⟨CoC.agg ⟨CoP.refl _, co_nilZ, trivial⟩, CoC.refl _, trivial⟩⟩
                  · skip
                    have h8 := r8
                    have h8 := bif_f (bif_fk r7 rfl) h8
                    have h8 := of_decide_eq_false h8
                    try simp only [Int.toNat_natCast] at h8
                    refine hw_skip ?_; show HW _ _ _ _ _; refine hw_seq ?_
                    have hnb : ¬ badS l p m false i a b := by
                      unfold badS
                      rintro (h | h | h | h | h | h | ⟨h, h2⟩ | ⟨h, h2⟩) <;> first | omega | cases h
                    have hap := applyE_3 (mu := false) (i := i) (a := a) (b := b) hT hbe hnb
                    have ha : a.toNat < l.length := by omega
                    have hb : b.toNat < l.length := by omega
                    have hra := hrow _ ha
                    have hrb := hrow _ hb
                    have hi : i.toNat < p.length := by omega
                    have hu : inU n (p.getD i.toNat default) = true := List.all_eq_true.1 hpa _ (by rw [List.getD_eq_getElem?_getD, List.getElem?_eq_getElem hi]; exact List.getElem_mem hi)
                    refine hw_region (E := TrydE) Trydok ?_; refine rm 3 rfl rfl rfl rfl rfl rfl ?_; refine rg_nil ?_; show HW _ _ _ _ _; (iterate 2 refine hw_seq ?_); refine hw_region (E := TrydE) Trydok ?_
                    (iterate 2 refine rq rfl rfl rfl rfl rfl ?_); refine rg_nil ?_; show HW _ _ _ _ _; refine hw_cond _ rfl (fun e => by cases e) (fun _ => ?_); (iterate 2 refine hw_seq ?_)
                    refine hw_draw (E := TrydE) Trydok Trydmixed [0, 1, 2, 3, 4, 5, 6, 7, 8, 9, 10, 11, 12, 13, 14, 15, 16, 17, 18, 19] ?_; (iterate 18 refine rq rfl rfl rfl rfl rfl ?_)
                    refine rc rfl rfl rfl rfl rfl rfl good57 (cRAgree (l.getD a.toNat default) (l.getD b.toNat default) (p.getD i.toNat default).lhs (by omega) (by omega)) (CoL.refl _) rfl rfl ?_; refine rq rfl rfl rfl rfl rfl ?_
                    refine rg_nil ?_; refine ⟨by kernel_rfl, ?_⟩; show HW _ _ _ _ _; refine hw_cond _ rfl (fun r9 => ?_) (fun r9 => ?_)
                    · skip
                      have h9 := r9
                      have h9 := not_t h9
                      refine hw_seq ?_; refine hw_region (E := TrydE) Trydok ?_; refine rq rfl rfl rfl rfl rfl ?_; refine rs rfl rfl rfl rfl rfl ?_; refine rq rfl rfl rfl rfl rfl ?_; refine rg_nil ?_; show HW _ _ _ _ _
                      refine hw_ret ?_; refine ⟨.inr rfl, ?_⟩
                      have he := hap.trans (show fdE n l a.toNat b.toNat (p.getD i.toNat default) = (0, [], 1) from if_neg (Bool.eq_false_iff.1 (by assumption)))
                      exact ⟨_, _, _, _, rfl, (by (repeat' apply And.intro) <;> first | trivial | exact Nat.le_of_ble_eq_true rfl | rfl), rfl, (by (repeat' apply And.intro) <;> first | trivial | exact Nat.le_of_ble_eq_true rfl | rfl), by rw [he]; exact ⟨CoC.agg ⟨CoP.refl _, co_nilZ, trivial⟩, CoC.refl _, trivial⟩⟩
                    · skip
                      have h9 := r9
                      have h9 := not_f h9
                      refine hw_skip ?_; show HW _ _ _ _ _; refine hw_draw (E := TrydE) Trydok Trydmixed [0, 1, 2, 3, 4, 5, 6, 7, 8, 9, 10, 11, 12] ?_; (iterate 11 refine rq rfl rfl rfl rfl rfl ?_)
                      refine rc rfl rfl rfl rfl rfl rfl good59 (cREquate n l (p.getD i.toNat default).rhs a.toNat b.toNat hn0 hn16 hrow (by omega) ha hb (fun j hj => memb_in hn0 hn16 hu hj)) (⟨CoC.refl _, CoC.refl _, cci (by omega), cci (by omega), trivial⟩) rfl rfl ?_
                      refine rs rfl rfl rfl rfl rfl ?_; refine rg_nil ?_; refine ⟨by kernel_rfl, ?_⟩; show HW _ _ _ _ _; (iterate 2 refine hw_seq ?_); refine hw_region (E := TrydE) Trydok ?_
                      (iterate 4 refine rq rfl rfl rfl rfl rfl ?_); refine rg_nil ?_; show HW _ _ _ _ _; refine hw_cond _ rfl (fun r10 => ?_) (fun r10 => ?_)
                      · skip
                        have h10 := r10
                        have h10 := of_decide_eq_true h10
                        try simp only [Int.toNat_natCast] at h10
                        refine hw_seq ?_; refine hw_region (E := TrydE) Trydok ?_; refine rq rfl rfl rfl rfl rfl ?_; refine rs rfl rfl rfl rfl rfl ?_; refine rq rfl rfl rfl rfl rfl ?_; refine rg_nil ?_; show HW _ _ _ _ _
                        refine hw_ret ?_; refine ⟨.inr rfl, ?_⟩
                        have hx := Nat.le_trans (canon_len (rowsOf l (eqMs (matOf l) a.toNat b.toNat (membs (p.getD i.toNat default).rhs)))) (Nat.le_of_eq (rowsOf_len _ _))
                        exact ⟨_, _, _, _, rfl, (by (repeat' apply And.intro) <;> first | trivial | exact Nat.le_of_ble_eq_true rfl | rfl), rfl, (by (repeat' apply And.intro) <;> first | trivial | exact Nat.le_of_ble_eq_true rfl | rfl), by exfalso; omega⟩
                      · skip
                        have h10 := r10
                        have h10 := of_decide_eq_false h10
                        try simp only [Int.toNat_natCast] at h10
                        refine hw_skip ?_; show HW _ _ _ _ _; refine hw_seq ?_; refine hw_region (E := TrydE) Trydok ?_; refine rq rfl rfl rfl rfl rfl ?_; refine rs rfl rfl rfl rfl rfl ?_; refine rq rfl rfl rfl rfl rfl ?_
                        refine rg_nil ?_; show HW _ _ _ _ _; refine hw_ret ?_; refine ⟨.inr rfl, ?_⟩
                        have he := hap.trans (show fdE n l a.toNat b.toNat (p.getD i.toNat default) = (n, canon (rowsOf l (eqMs (matOf l) a.toNat b.toNat (membs (p.getD i.toNat default).rhs))), 0) from if_pos (by assumption))
                        exact ⟨_, _, _, _, rfl, (by (repeat' apply And.intro) <;> first | trivial | exact Nat.le_of_ble_eq_true rfl | rfl), rfl, (by (repeat' apply And.intro) <;> first | trivial | exact Nat.le_of_ble_eq_true rfl | rfl), by rw [he]; exact CoL.refl _⟩
end Go.Hx
end
