/- A part of the proof: lemmas for the theorem of this claim, merged by a program of ours out of X31, Cc4. -/
import Derived.Test.YtididbpiikfaiaaDoorE36
set_option linter.all false
section
namespace Go.Hx
open Go.Proofs
set_option maxRecDepth 100000
theorem good33 : goodFn Tryd.prog 33 := ⟨Tryd.f33, Tryd.func33, by kernel_rfl, by kernel_rfl⟩
theorem cPApplyM (n : Int) (l : List Rw) (p m : List Fd) (i a b : Int) : HPure Tryd.prog 33 [pT n l, pP (fdl p), pP (fdl m), .agg [.raw (.bool true), .raw (.int .i64 i), .raw (.int .i64 a), .raw (.int .i64 b)]] (prOf [pT (applyE n l p m true i a b).1 (applyE n l p m true i a b).2.1, pI (applyE n l p m true i a b).2.2]) := by
  refine hpure_of (nt := 69) Trydok Tryd.func33 rfl rfl (Nat.le_of_ble_eq_true rfl) ?_; refine hw_seq ?_; refine hw_region (E := TrydE) Trydok ?_; refine rm 0 rfl rfl rfl rfl rfl rfl ?_; refine rm 1 rfl rfl rfl rfl rfl rfl ?_
  refine rm 2 rfl rfl rfl rfl rfl rfl ?_; refine rq rfl rfl rfl rfl rfl ?_; refine rg_nil ?_; show HW _ _ _ _ _; (iterate 2 refine hw_seq ?_); refine hw_region (E := TrydE) Trydok ?_; (iterate 3 refine rq rfl rfl rfl rfl rfl ?_)
  refine rc rfl rfl rfl rfl rfl rfl good47 (cChecked n l p m) (CoL.refl _) rfl rfl ?_; refine rq rfl rfl rfl rfl rfl ?_; refine rg_nil ?_; show HW _ _ _ _ _; refine hw_seq ?_; refine hw_region (E := TrydE) Trydok ?_
  (iterate 2 refine rq rfl rfl rfl rfl rfl ?_); refine rg_nil ?_; show HW _ _ _ _ _; refine hw_cond _ rfl (fun r0 => ?_) (fun r0 => ?_)
  · skip
    have h0 := r0
    have h0 := of_decide_eq_false (not_t h0)
    try simp only [Int.toNat_natCast] at h0
    refine hw_seq ?_; refine hw_region (E := TrydE) Trydok ?_; (iterate 2 refine rq rfl rfl rfl rfl rfl ?_); refine rs rfl rfl rfl rfl rfl ?_; refine rq rfl rfl rfl rfl rfl ?_; refine rg_nil ?_; show HW _ _ _ _ _; refine hw_ret ?_
    refine ⟨.inr rfl, ?_⟩
    have he := applyE_e (n := n) (l := l) (p := p) (m := m) (mu := true) (i := i) (a := a) (b := b) (by assumption)
    exact ⟨_, _, _, _, rfl, (by (repeat' apply And.intro) <;> first | trivial | exact Nat.le_of_ble_eq_true rfl | rfl), rfl, (by (repeat' apply And.intro) <;> first | trivial | exact Nat.le_of_ble_eq_true rfl | rfl), by rw [he]; exact ⟨CoC.agg ⟨CoP.refl _, co_nilZ, trivial⟩, CoC.refl _, trivial⟩⟩
  · skip
    have h0 := r0
    have h0 := of_decide_eq_true (not_f h0)
    try simp only [Int.toNat_natCast] at h0
    have hck : ckE n l p m = 0 := by assumption
    obtain ⟨hT, hbe, hpa⟩ := ckE_ok hck
    refine hw_skip ?_; show HW _ _ _ _ _; refine hw_seq ?_; refine hw_region (E := TrydE) Trydok ?_; (iterate 3 refine rq rfl rfl rfl rfl rfl ?_); refine rg_nil ?_; show HW _ _ _ _ _; (iterate 2 refine hw_seq ?_)
    refine hw_region (E := TrydE) Trydok ?_; (iterate 2 refine rq rfl rfl rfl rfl rfl ?_); refine rg_nil ?_; show HW _ _ _ _ _; refine hw_cond _ rfl (fun _ => ?_) (fun e => by cases e); refine hw_region (E := TrydE) Trydok ?_
    (iterate 3 refine rq rfl rfl rfl rfl rfl ?_); refine rg_nil ?_; show HW _ _ _ _ _; (iterate 2 refine hw_seq ?_); refine hw_region (E := TrydE) Trydok ?_; (iterate 4 refine rq rfl rfl rfl rfl rfl ?_)
    refine rsplit rfl rfl (fun r1 => ?_) (fun r1 => ?_)
    · skip
      have h1 := r1
      have h1 := of_decide_eq_true h1
      try simp only [Int.toNat_natCast] at h1
      (iterate 4 refine rk rfl rfl rfl (gtf r1) ?_); refine rq rfl rfl rfl rfl rfl ?_ (hp := r1); refine rq rfl rfl rfl rfl rfl ?_; (iterate 5 refine rk rfl rfl rfl rfl ?_); (iterate 2 refine rq rfl rfl rfl rfl rfl ?_)
      (iterate 6 refine rk rfl rfl rfl rfl ?_); (iterate 2 refine rq rfl rfl rfl rfl rfl ?_); (iterate 9 refine rk rfl rfl rfl rfl ?_); refine rq rfl rfl rfl rfl rfl ?_; refine rg_nil ?_; show HW _ _ _ _ _
      refine hw_cond _ rfl (fun _ => ?_) (fun e => by cases e); refine hw_seq ?_; refine hw_region (E := TrydE) Trydok ?_; refine rq rfl rfl rfl rfl rfl ?_; refine rs rfl rfl rfl rfl rfl ?_; refine rq rfl rfl rfl rfl rfl ?_
      refine rg_nil ?_; show HW _ _ _ _ _; refine hw_ret ?_; refine ⟨.inr rfl, ?_⟩
      have hbad : badS l p m true i a b := by
        first
          | (unfold badS; first | exact .inl (by omega) | exact .inr (.inl (by omega)) | exact .inr (.inr (.inl (by omega))) | exact .inr (.inr (.inr (.inl (by omega)))) | exact .inr (.inr (.inr (.inr (.inl (by omega))))) | exact .inr (.inr (.inr (.inr (.inr (.inl (by omega)))))) | exact .inr (.inr (.inr (.inr (.inr (.inr (.inl ⟨rfl, by omega⟩)))))))
          | (refine (min_neg (a := a) (b := b) ?_).elim (fun hq => ?_) (fun hq => ?_) <;> first | assumption | (unfold badS; first | exact .inl (by omega) | exact .inr (.inl (by omega)) | exact .inr (.inr (.inl (by omega))) | exact .inr (.inr (.inr (.inl (by omega)))) | exact .inr (.inr (.inr (.inr (.inl (by omega))))) | exact .inr (.inr (.inr (.inr (.inr (.inl (by omega)))))) | exact .inr (.inr (.inr (.inr (.inr (.inr (.inl ⟨rfl, by omega⟩))))))))
          | (refine (max_big (a := a) (b := b) (k := (l.length : Int)) ?_).elim (fun hq => ?_) (fun hq => ?_) <;> first | assumption | (unfold badS; first | exact .inl (by omega) | exact .inr (.inl (by omega)) | exact .inr (.inr (.inl (by omega))) | exact .inr (.inr (.inr (.inl (by omega)))) | exact .inr (.inr (.inr (.inr (.inl (by omega))))) | exact .inr (.inr (.inr (.inr (.inr (.inl (by omega)))))) | exact .inr (.inr (.inr (.inr (.inr (.inr (.inl ⟨rfl, by omega⟩))))))))
      have he := applyE_b hck hbad
      exact ⟨_, _, _, _, rfl, (by (repeat' apply And.intro) <;> first | trivial | exact Nat.le_of_ble_eq_true rfl | rfl), rfl, (by (repeat' apply And.intro) <;> first | trivial | exact Nat.le_of_ble_eq_true rfl | rfl), by rw [he]; exact ⟨CoC.agg ⟨CoP.refl _, co_nilZ, trivial⟩, CoC.refl _, trivial⟩⟩
    · skip
      have h1 := r1
      have h1 := of_decide_eq_false h1
      try simp only [Int.toNat_natCast] at h1
      (iterate 4 refine rq rfl rfl rfl rfl (gff r1) ?_); (iterate 2 refine rq rfl rfl rfl rfl rfl ?_); refine rsplit rfl rfl (fun r2 => ?_) (fun r2 => ?_)
      · skip
        have h2 := r2
        have h2 := bif_f r1 h2
        have h2 := of_decide_eq_true h2
        try simp only [Int.toNat_natCast] at h2
        (iterate 5 refine rk rfl rfl rfl (gtf r2) ?_); refine rq rfl rfl rfl rfl rfl ?_ (hp := r2); refine rq rfl rfl rfl rfl rfl ?_; (iterate 6 refine rk rfl rfl rfl rfl ?_); (iterate 2 refine rq rfl rfl rfl rfl rfl ?_)
        (iterate 9 refine rk rfl rfl rfl rfl ?_); refine rq rfl rfl rfl rfl rfl ?_; refine rg_nil ?_; show HW _ _ _ _ _; refine hw_cond _ rfl (fun _ => ?_) (fun e => by cases e); refine hw_seq ?_
        refine hw_region (E := TrydE) Trydok ?_; refine rq rfl rfl rfl rfl rfl ?_; refine rs rfl rfl rfl rfl rfl ?_; refine rq rfl rfl rfl rfl rfl ?_; refine rg_nil ?_; show HW _ _ _ _ _; refine hw_ret ?_; refine ⟨.inr rfl, ?_⟩
        have hbad : badS l p m true i a b := by
          first
            | (unfold badS; first | exact .inl (by omega) | exact .inr (.inl (by omega)) | exact .inr (.inr (.inl (by omega))) | exact .inr (.inr (.inr (.inl (by omega)))) | exact .inr (.inr (.inr (.inr (.inl (by omega))))) | exact .inr (.inr (.inr (.inr (.inr (.inl (by omega)))))) | exact .inr (.inr (.inr (.inr (.inr (.inr (.inl ⟨rfl, by omega⟩)))))))
            | (refine (min_neg (a := a) (b := b) ?_).elim (fun hq => ?_) (fun hq => ?_) <;> first | assumption | (unfold badS; first | exact .inl (by omega) | exact .inr (.inl (by omega)) | exact .inr (.inr (.inl (by omega))) | exact .inr (.inr (.inr (.inl (by omega)))) | exact .inr (.inr (.inr (.inr (.inl (by omega))))) | exact .inr (.inr (.inr (.inr (.inr (.inl (by omega)))))) | exact .inr (.inr (.inr (.inr (.inr (.inr (.inl ⟨rfl, by omega⟩))))))))
            | (refine (max_big (a := a) (b := b) (k := (l.length : Int)) ?_).elim (fun hq => ?_) (fun hq => ?_) <;> first | assumption | (unfold badS; first | exact .inl (by omega) | exact .inr (.inl (by omega)) | exact .inr (.inr (.inl (by omega))) | exact .inr (.inr (.inr (.inl (by omega)))) | exact .inr (.inr (.inr (.inr (.inl (by omega))))) | exact .inr (.inr (.inr (.inr (.inr (.inl (by omega)))))) | exact .inr (.inr (.inr (.inr (.inr (.inr (.inl ⟨rfl, by omega⟩))))))))
        have he := applyE_b hck hbad
        exact ⟨_, _, _, _, rfl, (by (repeat' apply And.intro) <;> first | trivial | exact Nat.le_of_ble_eq_true rfl | rfl), rfl, (by (repeat' apply And.intro) <;> first | trivial | exact Nat.le_of_ble_eq_true rfl | rfl), by rw [he]; exact ⟨CoC.agg ⟨CoP.refl _, co_nilZ, trivial⟩, CoC.refl _, trivial⟩⟩
      · skip
        have h2 := r2
        have h2 := bif_f r1 h2
        have h2 := of_decide_eq_false h2
        try simp only [Int.toNat_natCast] at h2
        (iterate 5 refine rq rfl rfl rfl rfl (gff r2) ?_); (iterate 2 refine rq rfl rfl rfl rfl rfl ?_); refine rsplit rfl rfl (fun r3 => ?_) (fun r3 => ?_)
        · skip
          have h3 := r3
          have h3 := bif_f r2 h3
          have h3 := of_decide_eq_true h3
          try simp only [Int.toNat_natCast] at h3
          (iterate 6 refine rk rfl rfl rfl (gtf r3) ?_); refine rq rfl rfl rfl rfl rfl ?_ (hp := r3); refine rq rfl rfl rfl rfl rfl ?_; (iterate 9 refine rk rfl rfl rfl rfl ?_); refine rq rfl rfl rfl rfl rfl ?_; refine rg_nil ?_
          show HW _ _ _ _ _; refine hw_cond _ rfl (fun _ => ?_) (fun e => by cases e); refine hw_seq ?_; refine hw_region (E := TrydE) Trydok ?_; refine rq rfl rfl rfl rfl rfl ?_; refine rs rfl rfl rfl rfl rfl ?_
          refine rq rfl rfl rfl rfl rfl ?_; refine rg_nil ?_; show HW _ _ _ _ _; refine hw_ret ?_; refine ⟨.inr rfl, ?_⟩
          have hbad : badS l p m true i a b := by
            first
              | (unfold badS; first | exact .inl (by omega) | exact .inr (.inl (by omega)) | exact .inr (.inr (.inl (by omega))) | exact .inr (.inr (.inr (.inl (by omega)))) | exact .inr (.inr (.inr (.inr (.inl (by omega))))) | exact .inr (.inr (.inr (.inr (.inr (.inl (by omega)))))) | exact .inr (.inr (.inr (.inr (.inr (.inr (.inl ⟨rfl, by omega⟩)))))))
              | (refine (min_neg (a := a) (b := b) ?_).elim (fun hq => ?_) (fun hq => ?_) <;> first | assumption | (unfold badS; first | exact .inl (by omega) | exact .inr (.inl (by omega)) | exact .inr (.inr (.inl (by omega))) | exact .inr (.inr (.inr (.inl (by omega)))) | exact .inr (.inr (.inr (.inr (.inl (by omega))))) | exact .inr (.inr (.inr (.inr (.inr (.inl (by omega)))))) | exact .inr (.inr (.inr (.inr (.inr (.inr (.inl ⟨rfl, by omega⟩))))))))
              | (refine (max_big (a := a) (b := b) (k := (l.length : Int)) ?_).elim (fun hq => ?_) (fun hq => ?_) <;> first | assumption | (unfold badS; first | exact .inl (by omega) | exact .inr (.inl (by omega)) | exact .inr (.inr (.inl (by omega))) | exact .inr (.inr (.inr (.inl (by omega)))) | exact .inr (.inr (.inr (.inr (.inl (by omega))))) | exact .inr (.inr (.inr (.inr (.inr (.inl (by omega)))))) | exact .inr (.inr (.inr (.inr (.inr (.inr (.inl ⟨rfl, by omega⟩))))))))
          have he := applyE_b hck hbad
          exact ⟨_, _, _, _, rfl, (by (repeat' apply And.intro) <;> first | trivial | exact Nat.le_of_ble_eq_true rfl | rfl), rfl, (by (repeat' apply And.intro) <;> first | trivial | exact Nat.le_of_ble_eq_true rfl | rfl), by rw [he]; exact ⟨CoC.agg ⟨CoP.refl _, co_nilZ, trivial⟩, CoC.refl _, trivial⟩⟩
        · skip
          have h3 := r3
          have h3 := bif_f r2 h3
          have h3 := of_decide_eq_false h3
          try simp only [Int.toNat_natCast] at h3
          (iterate 6 refine rq rfl rfl rfl rfl (gff r3) ?_); (iterate 2 refine rq rfl rfl rfl rfl rfl ?_); refine rsplit rfl rfl (fun r4 => ?_) (fun r4 => ?_)
          · skip
            have h4 := r4
            have h4 := bif_f r3 h4
            have h4 := of_decide_eq_true h4
            try simp only [Int.toNat_natCast] at h4
            (iterate 9 refine rk rfl rfl rfl (gtf r4) ?_); refine rq rfl rfl rfl rfl rfl ?_ (hp := r4); refine rg_nil ?_; show HW _ _ _ _ _; refine hw_cond _ rfl (fun _ => ?_) (fun e => by cases e); refine hw_seq ?_
            refine hw_region (E := TrydE) Trydok ?_; refine rq rfl rfl rfl rfl rfl ?_; refine rs rfl rfl rfl rfl rfl ?_; refine rq rfl rfl rfl rfl rfl ?_; refine rg_nil ?_; show HW _ _ _ _ _; refine hw_ret ?_; refine ⟨.inr rfl, ?_⟩
            have hbad : badS l p m true i a b := by
              first
                | (unfold badS; first | exact .inl (by omega) | exact .inr (.inl (by omega)) | exact .inr (.inr (.inl (by omega))) | exact .inr (.inr (.inr (.inl (by omega)))) | exact .inr (.inr (.inr (.inr (.inl (by omega))))) | exact .inr (.inr (.inr (.inr (.inr (.inl (by omega)))))) | exact .inr (.inr (.inr (.inr (.inr (.inr (.inl ⟨rfl, by omega⟩)))))))
                | (refine (min_neg (a := a) (b := b) ?_).elim (fun hq => ?_) (fun hq => ?_) <;> first | assumption | (unfold badS; first | exact .inl (by omega) | exact .inr (.inl (by omega)) | exact .inr (.inr (.inl (by omega))) | exact .inr (.inr (.inr (.inl (by omega)))) | exact .inr (.inr (.inr (.inr (.inl (by omega))))) | exact .inr (.inr (.inr (.inr (.inr (.inl (by omega)))))) | exact .inr (.inr (.inr (.inr (.inr (.inr (.inl ⟨rfl, by omega⟩))))))))
                | (refine (max_big (a := a) (b := b) (k := (l.length : Int)) ?_).elim (fun hq => ?_) (fun hq => ?_) <;> first | assumption | (unfold badS; first | exact .inl (by omega) | exact .inr (.inl (by omega)) | exact .inr (.inr (.inl (by omega))) | exact .inr (.inr (.inr (.inl (by omega)))) | exact .inr (.inr (.inr (.inr (.inl (by omega))))) | exact .inr (.inr (.inr (.inr (.inr (.inl (by omega)))))) | exact .inr (.inr (.inr (.inr (.inr (.inr (.inl ⟨rfl, by omega⟩))))))))
            have he := applyE_b hck hbad
            exact ⟨_, _, _, _, rfl, (by (repeat' apply And.intro) <;> first | trivial | exact Nat.le_of_ble_eq_true rfl | rfl), rfl, (by (repeat' apply And.intro) <;> first | trivial | exact Nat.le_of_ble_eq_true rfl | rfl), by rw [he]; exact ⟨CoC.agg ⟨CoP.refl _, co_nilZ, trivial⟩, CoC.refl _, trivial⟩⟩
          · skip
            have h4 := r4
            have h4 := bif_f r3 h4
            have h4 := of_decide_eq_false h4
            try simp only [Int.toNat_natCast] at h4
            (iterate 9 refine rq rfl rfl rfl rfl (gff r4) ?_); refine rq rfl rfl rfl rfl rfl ?_; refine rg_nil ?_; show HW _ _ _ _ _; refine hw_cond _ rfl (fun r5 => ?_) (fun r5 => ?_)
            · skip
              have h5 := r5
              have h5 := bif_f r4 h5
              have h5 := of_decide_eq_true h5
              try simp only [Int.toNat_natCast] at h5
              refine hw_seq ?_; refine hw_region (E := TrydE) Trydok ?_; refine rq rfl rfl rfl rfl rfl ?_; refine rs rfl rfl rfl rfl rfl ?_; refine rq rfl rfl rfl rfl rfl ?_; refine rg_nil ?_; show HW _ _ _ _ _; refine hw_ret ?_
              refine ⟨.inr rfl, ?_⟩
              have hbad : badS l p m true i a b := by
                first
                  | (unfold badS; first | exact .inl (by omega) | exact .inr (.inl (by omega)) | exact .inr (.inr (.inl (by omega))) | exact .inr (.inr (.inr (.inl (by omega)))) | exact .inr (.inr (.inr (.inr (.inl (by omega))))) | exact .inr (.inr (.inr (.inr (.inr (.inl (by omega)))))) | exact .inr (.inr (.inr (.inr (.inr (.inr (.inl ⟨rfl, by omega⟩)))))))
                  | (refine (min_neg (a := a) (b := b) ?_).elim (fun hq => ?_) (fun hq => ?_) <;> first | assumption | (unfold badS; first | exact .inl (by omega) | exact .inr (.inl (by omega)) | exact .inr (.inr (.inl (by omega))) | exact .inr (.inr (.inr (.inl (by omega)))) | exact .inr (.inr (.inr (.inr (.inl (by omega))))) | exact .inr (.inr (.inr (.inr (.inr (.inl (by omega)))))) | exact .inr (.inr (.inr (.inr (.inr (.inr (.inl ⟨rfl, by omega⟩))))))))
                  | (refine (max_big (a := a) (b := b) (k := (l.length : Int)) ?_).elim (fun hq => ?_) (fun hq => ?_) <;> first | assumption | (unfold badS; first | exact .inl (by omega) | exact .inr (.inl (by omega)) | exact .inr (.inr (.inl (by omega))) | exact .inr (.inr (.inr (.inl (by omega)))) | exact .inr (.inr (.inr (.inr (.inl (by omega))))) | exact .inr (.inr (.inr (.inr (.inr (.inl (by omega)))))) | exact .inr (.inr (.inr (.inr (.inr (.inr (.inl ⟨rfl, by omega⟩))))))))
              have he := applyE_b hck hbad
              exact ⟨_, _, _, _, rfl, (by (repeat' apply And.intro) <;> first | trivial | exact Nat.le_of_ble_eq_true rfl | rfl), rfl, (by (repeat' apply And.intro) <;> first | trivial | exact Nat.le_of_ble_eq_true rfl | rfl), by rw [he]; exact ⟨CoC.agg ⟨CoP.refl _, co_nilZ, trivial⟩, CoC.refl _, trivial⟩⟩
            · skip
              have h5 := r5
              have h5 := bif_f r4 h5
              have h5 := of_decide_eq_false h5
              try simp only [Int.toNat_natCast] at h5
              refine hw_skip ?_; show HW _ _ _ _ _; refine hw_seq ?_
              obtain ⟨ha0, hb0⟩ := min_nn (a := a) (b := b) (by assumption)
              obtain ⟨hal, hbl⟩ := max_sm (a := a) (b := b) (k := (l.length : Int)) (by assumption)
              have hnb : ¬ badS l p m true i a b := by
                unfold badS
                rintro (h | h | h | h | h | h | ⟨h, h2⟩ | ⟨h, h2⟩) <;> first | omega | cases h
              have ha : a.toNat < l.length := by omega
              have hb : b.toNat < l.length := by omega
              have hi : i.toNat < m.length := by omega
              refine hw_region (E := TrydE) Trydok ?_; (iterate 4 refine rq rfl rfl rfl rfl rfl ?_)
              refine rc rfl rfl rfl rfl rfl rfl good50 (cApplyM n l p m i.toNat a.toNat b.toNat hT ha hb hi) (⟨CoC.refl _, CoC.refl _, CoC.refl _, CoC.agg ⟨CoP.refl _, CoP.of_eq (by rw [Int.toNat_of_nonneg (by omega)]), CoP.of_eq (by rw [Int.toNat_of_nonneg (by omega)]), CoP.of_eq (by rw [Int.toNat_of_nonneg (by omega)]), trivial⟩, trivial⟩) rfl rfl ?_
              (iterate 2 refine rq rfl rfl rfl rfl rfl ?_); refine rs rfl rfl rfl rfl rfl ?_; refine rq rfl rfl rfl rfl rfl ?_; refine rg_nil ?_; show HW _ _ _ _ _; refine hw_ret ?_; refine ⟨.inr rfl, ?_⟩
              have he := applyE_g (n := n) (i := i) (a := a) (b := b) hck hnb
              exact ⟨_, _, _, _, rfl, (by (repeat' apply And.intro) <;> first | trivial | exact Nat.le_of_ble_eq_true rfl | rfl), rfl, (by (repeat' apply And.intro) <;> first | trivial | exact Nat.le_of_ble_eq_true rfl | rfl), by rw [he]; exact CoL.refl _⟩
theorem cPApplyF (n : Int) (l : List Rw) (p m : List Fd) (i a b : Int) : HPure Tryd.prog 33 [pT n l, pP (fdl p), pP (fdl m), .agg [.raw (.bool false), .raw (.int .i64 i), .raw (.int .i64 a), .raw (.int .i64 b)]] (prOf [pT (applyE n l p m false i a b).1 (applyE n l p m false i a b).2.1, pI (applyE n l p m false i a b).2.2]) := by
  refine hpure_of (nt := 69) Trydok Tryd.func33 rfl rfl (Nat.le_of_ble_eq_true rfl) ?_; refine hw_seq ?_; refine hw_region (E := TrydE) Trydok ?_; refine rm 0 rfl rfl rfl rfl rfl rfl ?_; refine rm 1 rfl rfl rfl rfl rfl rfl ?_
  refine rm 2 rfl rfl rfl rfl rfl rfl ?_; refine rq rfl rfl rfl rfl rfl ?_; refine rg_nil ?_; show HW _ _ _ _ _; (iterate 2 refine hw_seq ?_); refine hw_region (E := TrydE) Trydok ?_; (iterate 3 refine rq rfl rfl rfl rfl rfl ?_)
  refine rc rfl rfl rfl rfl rfl rfl good47 (cChecked n l p m) (CoL.refl _) rfl rfl ?_; refine rq rfl rfl rfl rfl rfl ?_; refine rg_nil ?_; show HW _ _ _ _ _; refine hw_seq ?_; refine hw_region (E := TrydE) Trydok ?_
  (iterate 2 refine rq rfl rfl rfl rfl rfl ?_); refine rg_nil ?_; show HW _ _ _ _ _; refine hw_cond _ rfl (fun r0 => ?_) (fun r0 => ?_)
  · skip
    have h0 := r0
    have h0 := of_decide_eq_false (not_t h0)
    try simp only [Int.toNat_natCast] at h0
    refine hw_seq ?_; refine hw_region (E := TrydE) Trydok ?_; (iterate 2 refine rq rfl rfl rfl rfl rfl ?_); refine rs rfl rfl rfl rfl rfl ?_; refine rq rfl rfl rfl rfl rfl ?_; refine rg_nil ?_; show HW _ _ _ _ _; refine hw_ret ?_
    refine ⟨.inr rfl, ?_⟩
    have he := applyE_e (n := n) (l := l) (p := p) (m := m) (mu := false) (i := i) (a := a) (b := b) (by assumption)
    exact ⟨_, _, _, _, rfl, (by (repeat' apply And.intro) <;> first | trivial | exact Nat.le_of_ble_eq_true rfl | rfl), rfl, (by (repeat' apply And.intro) <;> first | trivial | exact Nat.le_of_ble_eq_true rfl | rfl), by rw [he]; exact ⟨CoC.agg ⟨CoP.refl _, co_nilZ, trivial⟩, CoC.refl _, trivial⟩⟩
  · skip
    have h0 := r0
    have h0 := of_decide_eq_true (not_f h0)
    try simp only [Int.toNat_natCast] at h0
    have hck : ckE n l p m = 0 := by assumption
    obtain ⟨hT, hbe, hpa⟩ := ckE_ok hck
    refine hw_skip ?_; show HW _ _ _ _ _; refine hw_seq ?_; refine hw_region (E := TrydE) Trydok ?_; (iterate 3 refine rq rfl rfl rfl rfl rfl ?_); refine rg_nil ?_; show HW _ _ _ _ _; (iterate 2 refine hw_seq ?_)
    refine hw_region (E := TrydE) Trydok ?_; (iterate 2 refine rq rfl rfl rfl rfl rfl ?_); refine rg_nil ?_; show HW _ _ _ _ _; refine hw_cond _ rfl (fun e => by cases e) (fun _ => ?_); refine hw_skip ?_; show HW _ _ _ _ _
    (iterate 2 refine hw_seq ?_); refine hw_region (E := TrydE) Trydok ?_; (iterate 4 refine rq rfl rfl rfl rfl rfl ?_); refine rsplit rfl rfl (fun r1 => ?_) (fun r1 => ?_)
    · skip
      have h1 := r1
      have h1 := of_decide_eq_true h1
      try simp only [Int.toNat_natCast] at h1
      (iterate 4 refine rk rfl rfl rfl (gtf r1) ?_); refine rq rfl rfl rfl rfl rfl ?_ (hp := r1); refine rq rfl rfl rfl rfl rfl ?_; (iterate 5 refine rk rfl rfl rfl rfl ?_); (iterate 2 refine rq rfl rfl rfl rfl rfl ?_)
      (iterate 6 refine rk rfl rfl rfl rfl ?_); (iterate 2 refine rq rfl rfl rfl rfl rfl ?_); (iterate 9 refine rk rfl rfl rfl rfl ?_); refine rq rfl rfl rfl rfl rfl ?_; refine rg_nil ?_; show HW _ _ _ _ _
      refine hw_cond _ rfl (fun _ => ?_) (fun e => by cases e); refine hw_seq ?_; refine hw_region (E := TrydE) Trydok ?_; refine rq rfl rfl rfl rfl rfl ?_; refine rs rfl rfl rfl rfl rfl ?_; refine rq rfl rfl rfl rfl rfl ?_
      refine rg_nil ?_; show HW _ _ _ _ _; refine hw_ret ?_; refine ⟨.inr rfl, ?_⟩
      have hbad : badS l p m false i a b := by
        first
          | (unfold badS; first | exact .inl (by omega) | exact .inr (.inl (by omega)) | exact .inr (.inr (.inl (by omega))) | exact .inr (.inr (.inr (.inl (by omega)))) | exact .inr (.inr (.inr (.inr (.inl (by omega))))) | exact .inr (.inr (.inr (.inr (.inr (.inl (by omega)))))) | exact .inr (.inr (.inr (.inr (.inr (.inr (.inr ⟨rfl, by omega⟩)))))))
          | (refine (min_neg (a := a) (b := b) ?_).elim (fun hq => ?_) (fun hq => ?_) <;> first | assumption | (unfold badS; first | exact .inl (by omega) | exact .inr (.inl (by omega)) | exact .inr (.inr (.inl (by omega))) | exact .inr (.inr (.inr (.inl (by omega)))) | exact .inr (.inr (.inr (.inr (.inl (by omega))))) | exact .inr (.inr (.inr (.inr (.inr (.inl (by omega)))))) | exact .inr (.inr (.inr (.inr (.inr (.inr (.inr ⟨rfl, by omega⟩))))))))
          | (refine (max_big (a := a) (b := b) (k := (l.length : Int)) ?_).elim (fun hq => ?_) (fun hq => ?_) <;> first | assumption | (unfold badS; first | exact .inl (by omega) | exact .inr (.inl (by omega)) | exact .inr (.inr (.inl (by omega))) | exact .inr (.inr (.inr (.inl (by omega)))) | exact .inr (.inr (.inr (.inr (.inl (by omega))))) | exact .inr (.inr (.inr (.inr (.inr (.inl (by omega)))))) | exact .inr (.inr (.inr (.inr (.inr (.inr (.inr ⟨rfl, by omega⟩))))))))
      have he := applyE_b hck hbad
      exact ⟨_, _, _, _, rfl, (by (repeat' apply And.intro) <;> first | trivial | exact Nat.le_of_ble_eq_true rfl | rfl), rfl, (by (repeat' apply And.intro) <;> first | trivial | exact Nat.le_of_ble_eq_true rfl | rfl), by rw [he]; exact ⟨CoC.agg ⟨CoP.refl _, co_nilZ, trivial⟩, CoC.refl _, trivial⟩⟩
    · skip
      have h1 := r1
      have h1 := of_decide_eq_false h1
      try simp only [Int.toNat_natCast] at h1
      (iterate 4 refine rq rfl rfl rfl rfl (gff r1) ?_); (iterate 2 refine rq rfl rfl rfl rfl rfl ?_); refine rsplit rfl rfl (fun r2 => ?_) (fun r2 => ?_)
      · skip
        have h2 := r2
        have h2 := bif_f r1 h2
        have h2 := of_decide_eq_true h2
        try simp only [Int.toNat_natCast] at h2
        (iterate 5 refine rk rfl rfl rfl (gtf r2) ?_); refine rq rfl rfl rfl rfl rfl ?_ (hp := r2); refine rq rfl rfl rfl rfl rfl ?_; (iterate 6 refine rk rfl rfl rfl rfl ?_); (iterate 2 refine rq rfl rfl rfl rfl rfl ?_)
        (iterate 9 refine rk rfl rfl rfl rfl ?_); refine rq rfl rfl rfl rfl rfl ?_; refine rg_nil ?_; show HW _ _ _ _ _; refine hw_cond _ rfl (fun _ => ?_) (fun e => by cases e); refine hw_seq ?_
        refine hw_region (E := TrydE) Trydok ?_; refine rq rfl rfl rfl rfl rfl ?_; refine rs rfl rfl rfl rfl rfl ?_; refine rq rfl rfl rfl rfl rfl ?_; refine rg_nil ?_; show HW _ _ _ _ _; refine hw_ret ?_; refine ⟨.inr rfl, ?_⟩
        have hbad : badS l p m false i a b := by
          first
            | (unfold badS; first | exact .inl (by omega) | exact .inr (.inl (by omega)) | exact .inr (.inr (.inl (by omega))) | exact .inr (.inr (.inr (.inl (by omega)))) | exact .inr (.inr (.inr (.inr (.inl (by omega))))) | exact .inr (.inr (.inr (.inr (.inr (.inl (by omega)))))) | exact .inr (.inr (.inr (.inr (.inr (.inr (.inr ⟨rfl, by omega⟩)))))))
            | (refine (min_neg (a := a) (b := b) ?_).elim (fun hq => ?_) (fun hq => ?_) <;> first | assumption | (unfold badS; first | exact .inl (by omega) | exact .inr (.inl (by omega)) | exact .inr (.inr (.inl (by omega))) | exact .inr (.inr (.inr (.inl (by omega)))) | exact .inr (.inr (.inr (.inr (.inl (by omega))))) | exact .inr (.inr (.inr (.inr (.inr (.inl (by omega)))))) | exact .inr (.inr (.inr (.inr (.inr (.inr (.inr ⟨rfl, by omega⟩))))))))
            | (refine (max_big (a := a) (b := b) (k := (l.length : Int)) ?_).elim (fun hq => ?_) (fun hq => ?_) <;> first | assumption | (unfold badS; first | exact .inl (by omega) | exact .inr (.inl (by omega)) | exact .inr (.inr (.inl (by omega))) | exact .inr (.inr (.inr (.inl (by omega)))) | exact .inr (.inr (.inr (.inr (.inl (by omega))))) | exact .inr (.inr (.inr (.inr (.inr (.inl (by omega)))))) | exact .inr (.inr (.inr (.inr (.inr (.inr (.inr ⟨rfl, by omega⟩))))))))
        have he := applyE_b hck hbad
        exact ⟨_, _, _, _, rfl, (by (repeat' apply And.intro) <;> first | trivial | exact Nat.le_of_ble_eq_true rfl | rfl), rfl, (by (repeat' apply And.intro) <;> first | trivial | exact Nat.le_of_ble_eq_true rfl | rfl), by rw [he]; exact ⟨CoC.agg ⟨CoP.refl _, co_nilZ, trivial⟩, CoC.refl _, trivial⟩⟩
      · skip
        have h2 := r2
        have h2 := bif_f r1 h2
        have h2 := of_decide_eq_false h2
        try simp only [Int.toNat_natCast] at h2
        (iterate 5 refine rq rfl rfl rfl rfl (gff r2) ?_); (iterate 2 refine rq rfl rfl rfl rfl rfl ?_); refine rsplit rfl rfl (fun r3 => ?_) (fun r3 => ?_)
        · skip
          have h3 := r3
          have h3 := bif_f r2 h3
          have h3 := of_decide_eq_true h3
          try simp only [Int.toNat_natCast] at h3
          (iterate 6 refine rk rfl rfl rfl (gtf r3) ?_); refine rq rfl rfl rfl rfl rfl ?_ (hp := r3); refine rq rfl rfl rfl rfl rfl ?_; (iterate 9 refine rk rfl rfl rfl rfl ?_); refine rq rfl rfl rfl rfl rfl ?_; refine rg_nil ?_
          show HW _ _ _ _ _; refine hw_cond _ rfl (fun _ => ?_) (fun e => by cases e); refine hw_seq ?_; refine hw_region (E := TrydE) Trydok ?_; refine rq rfl rfl rfl rfl rfl ?_; refine rs rfl rfl rfl rfl rfl ?_
          refine rq rfl rfl rfl rfl rfl ?_; refine rg_nil ?_; show HW _ _ _ _ _; refine hw_ret ?_; refine ⟨.inr rfl, ?_⟩
          have hbad : badS l p m false i a b := by
            first
              | (unfold badS; first | exact .inl (by omega) | exact .inr (.inl (by omega)) | exact .inr (.inr (.inl (by omega))) | exact .inr (.inr (.inr (.inl (by omega)))) | exact .inr (.inr (.inr (.inr (.inl (by omega))))) | exact .inr (.inr (.inr (.inr (.inr (.inl (by omega)))))) | exact .inr (.inr (.inr (.inr (.inr (.inr (.inr ⟨rfl, by omega⟩)))))))
              | (refine (min_neg (a := a) (b := b) ?_).elim (fun hq => ?_) (fun hq => ?_) <;> first | assumption | (unfold badS; first | exact .inl (by omega) | exact .inr (.inl (by omega)) | exact .inr (.inr (.inl (by omega))) | exact .inr (.inr (.inr (.inl (by omega)))) | exact .inr (.inr (.inr (.inr (.inl (by omega))))) | exact .inr (.inr (.inr (.inr (.inr (.inl (by omega)))))) | exact .inr (.inr (.inr (.inr (.inr (.inr (.inr ⟨rfl, by omega⟩))))))))
              | (refine (max_big (a := a) (b := b) (k := (l.length : Int)) ?_).elim (fun hq => ?_) (fun hq => ?_) <;> first | assumption | (unfold badS; first | exact .inl (by omega) | exact .inr (.inl (by omega)) | exact .inr (.inr (.inl (by omega))) | exact .inr (.inr (.inr (.inl (by omega)))) | exact .inr (.inr (.inr (.inr (.inl (by omega))))) | exact .inr (.inr (.inr (.inr (.inr (.inl (by omega)))))) | exact .inr (.inr (.inr (.inr (.inr (.inr (.inr ⟨rfl, by omega⟩))))))))
          have he := applyE_b hck hbad
          exact ⟨_, _, _, _, rfl, (by (repeat' apply And.intro) <;> first | trivial | exact Nat.le_of_ble_eq_true rfl | rfl), rfl, (by (repeat' apply And.intro) <;> first | trivial | exact Nat.le_of_ble_eq_true rfl | rfl), by rw [he]; exact ⟨CoC.agg ⟨CoP.refl _, co_nilZ, trivial⟩, CoC.refl _, trivial⟩⟩
        · skip
          have h3 := r3
          have h3 := bif_f r2 h3
          have h3 := of_decide_eq_false h3
          try simp only [Int.toNat_natCast] at h3
          (iterate 6 refine rq rfl rfl rfl rfl (gff r3) ?_); (iterate 2 refine rq rfl rfl rfl rfl rfl ?_); refine rsplit rfl rfl (fun r4 => ?_) (fun r4 => ?_)
          · skip
            have h4 := r4
            have h4 := bif_f r3 h4
            have h4 := of_decide_eq_true h4
            try simp only [Int.toNat_natCast] at h4
            (iterate 9 refine rk rfl rfl rfl (gtf r4) ?_); refine rq rfl rfl rfl rfl rfl ?_ (hp := r4); refine rg_nil ?_; show HW _ _ _ _ _; refine hw_cond _ rfl (fun _ => ?_) (fun e => by cases e); refine hw_seq ?_
            refine hw_region (E := TrydE) Trydok ?_; refine rq rfl rfl rfl rfl rfl ?_; refine rs rfl rfl rfl rfl rfl ?_; refine rq rfl rfl rfl rfl rfl ?_; refine rg_nil ?_; show HW _ _ _ _ _; refine hw_ret ?_; refine ⟨.inr rfl, ?_⟩
            have hbad : badS l p m false i a b := by
              first
                | (unfold badS; first | exact .inl (by omega) | exact .inr (.inl (by omega)) | exact .inr (.inr (.inl (by omega))) | exact .inr (.inr (.inr (.inl (by omega)))) | exact .inr (.inr (.inr (.inr (.inl (by omega))))) | exact .inr (.inr (.inr (.inr (.inr (.inl (by omega)))))) | exact .inr (.inr (.inr (.inr (.inr (.inr (.inr ⟨rfl, by omega⟩)))))))
                | (refine (min_neg (a := a) (b := b) ?_).elim (fun hq => ?_) (fun hq => ?_) <;> first | assumption | (unfold badS; first | exact .inl (by omega) | exact .inr (.inl (by omega)) | exact .inr (.inr (.inl (by omega))) | exact .inr (.inr (.inr (.inl (by omega)))) | exact .inr (.inr (.inr (.inr (.inl (by omega))))) | exact .inr (.inr (.inr (.inr (.inr (.inl (by omega)))))) | exact .inr (.inr (.inr (.inr (.inr (.inr (.inr ⟨rfl, by omega⟩))))))))
                | (refine (max_big (a := a) (b := b) (k := (l.length : Int)) ?_).elim (fun hq => ?_) (fun hq => ?_) <;> first | assumption | (unfold badS; first | exact .inl (by omega) | exact .inr (.inl (by omega)) | exact .inr (.inr (.inl (by omega))) | exact .inr (.inr (.inr (.inl (by omega)))) | exact .inr (.inr (.inr (.inr (.inl (by omega))))) | exact .inr (.inr (.inr (.inr (.inr (.inl (by omega)))))) | exact .inr (.inr (.inr (.inr (.inr (.inr (.inr ⟨rfl, by omega⟩))))))))
            have he := applyE_b hck hbad
            exact ⟨_, _, _, _, rfl, (by (repeat' apply And.intro) <;> first | trivial | exact Nat.le_of_ble_eq_true rfl | rfl), rfl, (by (repeat' apply And.intro) <;> first | trivial | exact Nat.le_of_ble_eq_true rfl | rfl), by rw [he]; exact ⟨CoC.agg ⟨CoP.refl _, co_nilZ, trivial⟩, CoC.refl _, trivial⟩⟩
          · skip
            have h4 := r4
            have h4 := bif_f r3 h4
            have h4 := of_decide_eq_false h4
            try simp only [Int.toNat_natCast] at h4
            (iterate 9 refine rq rfl rfl rfl rfl (gff r4) ?_); refine rq rfl rfl rfl rfl rfl ?_; refine rg_nil ?_; show HW _ _ _ _ _; refine hw_cond _ rfl (fun r5 => ?_) (fun r5 => ?_)
            · skip
              have h5 := r5
              have h5 := bif_f r4 h5
              have h5 := of_decide_eq_true h5
              try simp only [Int.toNat_natCast] at h5
              refine hw_seq ?_; refine hw_region (E := TrydE) Trydok ?_; refine rq rfl rfl rfl rfl rfl ?_; refine rs rfl rfl rfl rfl rfl ?_; refine rq rfl rfl rfl rfl rfl ?_; refine rg_nil ?_; show HW _ _ _ _ _; refine hw_ret ?_
              refine ⟨.inr rfl, ?_⟩
              have hbad : badS l p m false i a b := by
                first
                  | (unfold badS; first | exact .inl (by omega) | exact .inr (.inl (by omega)) | exact .inr (.inr (.inl (by omega))) | exact .inr (.inr (.inr (.inl (by omega)))) | exact .inr (.inr (.inr (.inr (.inl (by omega))))) | exact .inr (.inr (.inr (.inr (.inr (.inl (by omega)))))) | exact .inr (.inr (.inr (.inr (.inr (.inr (.inr ⟨rfl, by omega⟩)))))))
                  | (refine (min_neg (a := a) (b := b) ?_).elim (fun hq => ?_) (fun hq => ?_) <;> first | assumption | (unfold badS; first | exact .inl (by omega) | exact .inr (.inl (by omega)) | exact .inr (.inr (.inl (by omega))) | exact .inr (.inr (.inr (.inl (by omega)))) | exact .inr (.inr (.inr (.inr (.inl (by omega))))) | exact .inr (.inr (.inr (.inr (.inr (.inl (by omega)))))) | exact .inr (.inr (.inr (.inr (.inr (.inr (.inr ⟨rfl, by omega⟩))))))))
                  | (refine (max_big (a := a) (b := b) (k := (l.length : Int)) ?_).elim (fun hq => ?_) (fun hq => ?_) <;> first | assumption | (unfold badS; first | exact .inl (by omega) | exact .inr (.inl (by omega)) | exact .inr (.inr (.inl (by omega))) | exact .inr (.inr (.inr (.inl (by omega)))) | exact .inr (.inr (.inr (.inr (.inl (by omega))))) | exact .inr (.inr (.inr (.inr (.inr (.inl (by omega)))))) | exact .inr (.inr (.inr (.inr (.inr (.inr (.inr ⟨rfl, by omega⟩))))))))
              have he := applyE_b hck hbad
              exact ⟨_, _, _, _, rfl, (by (repeat' apply And.intro) <;> first | trivial | exact Nat.le_of_ble_eq_true rfl | rfl), rfl, (by (repeat' apply And.intro) <;> first | trivial | exact Nat.le_of_ble_eq_true rfl | rfl), by rw [he]; exact ⟨CoC.agg ⟨CoP.refl _, co_nilZ, trivial⟩, CoC.refl _, trivial⟩⟩
            · skip
              have h5 := r5
              have h5 := bif_f r4 h5
              have h5 := of_decide_eq_false h5
              try simp only [Int.toNat_natCast] at h5
              refine hw_skip ?_; show HW _ _ _ _ _; refine hw_seq ?_
              obtain ⟨ha0, hb0⟩ := min_nn (a := a) (b := b) (by assumption)
              obtain ⟨hal, hbl⟩ := max_sm (a := a) (b := b) (k := (l.length : Int)) (by assumption)
              have hnb : ¬ badS l p m false i a b := by
                unfold badS
                rintro (h | h | h | h | h | h | ⟨h, h2⟩ | ⟨h, h2⟩) <;> first | omega | cases h
              have ha : a.toNat < l.length := by omega
              have hb : b.toNat < l.length := by omega
              have hi : i.toNat < p.length := by omega
              refine hw_region (E := TrydE) Trydok ?_; (iterate 4 refine rq rfl rfl rfl rfl rfl ?_)
              refine rc rfl rfl rfl rfl rfl rfl good50 (cApplyF n l p m i.toNat a.toNat b.toNat hT ha hb hi (List.all_eq_true.1 hpa _ (mem_getD hi))) (⟨CoC.refl _, CoC.refl _, CoC.refl _, CoC.agg ⟨CoP.refl _, CoP.of_eq (by rw [Int.toNat_of_nonneg (by omega)]), CoP.of_eq (by rw [Int.toNat_of_nonneg (by omega)]), CoP.of_eq (by rw [Int.toNat_of_nonneg (by omega)]), trivial⟩, trivial⟩) rfl rfl ?_
              (iterate 2 refine rq rfl rfl rfl rfl rfl ?_); refine rs rfl rfl rfl rfl rfl ?_; refine rq rfl rfl rfl rfl rfl ?_; refine rg_nil ?_; show HW _ _ _ _ _; refine hw_ret ?_; refine ⟨.inr rfl, ?_⟩
              have he := applyE_g (n := n) (i := i) (a := a) (b := b) hck hnb
              exact ⟨_, _, _, _, rfl, (by (repeat' apply And.intro) <;> first | trivial | exact Nat.le_of_ble_eq_true rfl | rfl), rfl, (by (repeat' apply And.intro) <;> first | trivial | exact Nat.le_of_ble_eq_true rfl | rfl), by rw [he]; exact CoL.refl _⟩
theorem good27 : goodFn Tryd.prog 27 := ⟨Tryd.f27, Tryd.func27, by kernel_rfl, by kernel_rfl⟩
theorem cEqSt (a b : List St) : HPure Tryd.prog 27 [pP (stl a), pP (stl b)] (prOf [pB (decide (a = b))]) := by
  refine hpure_of (nt := 26) Trydok Tryd.func27 rfl rfl (Nat.le_of_ble_eq_true rfl) ?_; refine hw_seq ?_
  refine hw_bt 0 rfl fun hn0 => ?_
  refine hw_bt 1 rfl fun hn1 => ?_
  refine hw_region (E := TrydE) Trydok ?_; refine rq rfl rfl rfl rfl rfl ?_; refine rg_nil ?_; show HW _ _ _ _ _; (iterate 2 refine hw_seq ?_); refine hw_region (E := TrydE) Trydok ?_; (iterate 5 refine rq rfl rfl rfl rfl rfl ?_)
  refine rg_nil ?_; show HW _ _ _ _ _; refine hw_cond _ rfl (fun r0 => ?_) (fun r0 => ?_)
  · skip
    have h0 := r0
    have h0 := of_decide_eq_false (not_t h0)
    try simp only [Int.toNat_natCast] at h0
    refine hw_seq ?_; refine hw_region (E := TrydE) Trydok ?_; refine rq rfl rfl rfl rfl rfl ?_; refine rg_nil ?_; show HW _ _ _ _ _; refine hw_ret ?_; refine ⟨.inr rfl, ?_⟩
    exact ⟨_, _, _, _, rfl, (by (repeat' apply And.intro) <;> first | trivial | exact Nat.le_of_ble_eq_true rfl | rfl), rfl, (by (repeat' apply And.intro) <;> first | trivial | exact Nat.le_of_ble_eq_true rfl | rfl), ⟨ccb (decide_eq_false fun e => by subst e; omega).symm, trivial⟩⟩
  · skip
    have h0 := r0
    have h0 := of_decide_eq_true (not_f h0)
    try simp only [Int.toNat_natCast] at h0
    refine hw_skip ?_; show HW _ _ _ _ _; refine hw_joinK (ι := Unit) ⟨[], []⟩ ⟨trivial, trivial⟩ (fun _i => ⟨[], []⟩) (fun _i => a = b) ?_ ?_
    · skip
      refine hw_seq ?_; refine hw_region (E := TrydE) Trydok ?_; (iterate 3 refine rq rfl rfl rfl rfl rfl ?_); refine rg_nil ?_; show HW _ _ _ _ _; refine hw_block ?_
      refine hw_loopK (ι := Nat) ⟨[(0, some _), (1, some _), (12, some _)], []⟩ ⟨⟨⟨_, rfl, CoR.refl _⟩, ⟨_, rfl, CoR.refl _⟩, ⟨_, rfl, CoR.refl _⟩, trivial⟩, trivial⟩ (fun i => ⟨[(13, some (vI i))], []⟩) (fun i => i ≤ a.length ∧ (∀ j, j < i → a.getD j default = b.getD j default)) (fun i => a.length - i) (0) (⟨Nat.zero_le _, all_zero⟩) ⟨⟨⟨_, rfl, (by first | exact CoR.refl _ | exact coi (by omega) | exact cob (by simp_all))⟩, trivial⟩, trivial⟩ ?_
      rintro i ⟨hi, hI⟩
      refine hw_seq ?_; refine hw_region (E := TrydE) Trydok ?_; refine rq rfl rfl rfl rfl rfl ?_; refine rg_nil ?_; show HW _ _ _ _ _; refine hw_seq ?_; refine hw_cond _ rfl (fun r1 => ?_) (fun r1 => ?_)
      · skip
        have h1 := r1
        have h1 := of_decide_eq_true h1
        try simp only [Int.toNat_natCast] at h1
        refine hw_skip ?_; show HW _ _ _ _ _; refine hw_seq ?_; refine hw_block ?_; refine hw_seq ?_; refine hw_region (E := TrydE) Trydok ?_; (iterate 2 refine rq rfl rfl rfl rfl rfl ?_); refine rg_nil ?_; show HW _ _ _ _ _
        refine hw_seq ?_; refine hw_draw (E := TrydE) Trydok Trydmixed [0, 1, 2, 3, 4, 5, 6, 7, 8] ?_; (iterate 9 refine rq rfl rfl rfl rfl rfl ?_); refine rg_nil ?_; refine ⟨by kernel_rfl, ?_⟩; show HW _ _ _ _ _
        refine hw_cond _ rfl (fun r2 => ?_) (fun r2 => ?_)
        · skip
          have h2 := r2
          have hne : ¬ a.getD i default = b.getD i default := st_ne h2
          refine hw_seq ?_; refine hw_region (E := TrydE) Trydok ?_; refine rq rfl rfl rfl rfl rfl ?_; refine rg_nil ?_; show HW _ _ _ _ _; refine hw_ret ?_; refine ⟨.inr rfl, ?_⟩
          exact ⟨_, _, _, _, rfl, (by (repeat' apply And.intro) <;> first | trivial | exact Nat.le_of_ble_eq_true rfl | rfl), rfl, (by (repeat' apply And.intro) <;> first | trivial | exact Nat.le_of_ble_eq_true rfl | rfl), ⟨ccb (decide_eq_false fun e => hne (by rw [e])).symm, trivial⟩⟩
        · skip
          have h2 := r2
          have heq : a.getD i default = b.getD i default := st_eq h2
          refine hw_skip ?_; show HW _ _ _ _ _; refine hw_region (E := TrydE) Trydok ?_; (iterate 2 refine rq rfl rfl rfl rfl rfl ?_); refine rg_nil ?_; refine ⟨i + 1, ?_, ?_, ?_⟩
          · exact ⟨by show i + 1 ≤ _; omega, all_succ hI (heq)⟩
          · first | omega | (dsimp only; omega)
          · exact ⟨⟨⟨_, rfl, (by first | exact CoR.refl _ | exact coi (by omega) | exact cob (by simp_all))⟩, ⟨_, rfl, CoR.refl _⟩, ⟨_, rfl, CoR.refl _⟩, ⟨_, rfl, CoR.refl _⟩, trivial⟩, trivial⟩
      · skip
        have h1 := r1
        have h1 := of_decide_eq_false h1
        try simp only [Int.toNat_natCast] at h1
        refine hw_exit ?_; refine ⟨(), ?_, ?_⟩
        · exact list_eq (by omega) fun j hj => hI j (by omega)
        · exact ⟨trivial, trivial⟩
    · rintro _ hj
      refine hw_seq ?_; refine hw_region (E := TrydE) Trydok ?_; refine rq rfl rfl rfl rfl rfl ?_; refine rg_nil ?_; show HW _ _ _ _ _; refine hw_ret ?_; refine ⟨.inr rfl, ?_⟩
      exact ⟨_, _, _, _, rfl, (by (repeat' apply And.intro) <;> first | trivial | exact Nat.le_of_ble_eq_true rfl | rfl), rfl, (by (repeat' apply And.intro) <;> first | trivial | exact Nat.le_of_ble_eq_true rfl | rfl), ⟨ccb (decide_eq_true hj).symm, trivial⟩⟩
end Go.Hx
end
section
namespace Go.Hx
open Go.Proofs
theorem num_ok (d : Rcp) {k : Nat} (hk : 0 < k) : 1 ≤ d.num k ∧ d.num k ≤ k := by
  have := Nat.mod_lt d.n.toNat hk
  unfold Rcp.num
  omega
abbrev Rcp.fs (d : Rcp) (k : Nat) : List Fd := d.f.map (Dp.fd (d.num k))
abbrev Rcp.ms (d : Rcp) (k : Nat) : List Fd := d.m.map (Dp.fd (d.num k))
abbrev Rcp.ps (d : Rcp) (k : Nat) : List AS := d.p.map (u8S (d.num k))
abbrev Rcp.t0 (d : Rcp) (k : Nat) : List Rw := canon (stRows (d.num k) (d.ps k))
theorem sub_andR {a b : AS} : sub (a &&& b) b := sub_bit.2 fun i hi e => by
  rw [BitVec.getLsbD_and, Bool.and_eq_true] at e
  exact e.2
theorem dp_in {n : Int} (h0 : 0 ≤ n) (h16 : n ≤ 16) (x : Dp) : inU n (x.fd n) = true := (inU_iff h0 h16).2 ⟨sub_andR, sub_andR⟩
theorem rcp_err (d : Rcp) {k : Nat} (hk : 0 < k ∧ k ≤ 5) (hf : d.f.length ≤ 4) (hm : d.m.length ≤ 4) : bErr (d.num k) (d.fs k) (d.ms k) = 0 := by
  obtain ⟨h1, h2⟩ := num_ok d hk.1
  have hv : vErr (d.num k) (d.fs k) = 0 := by
    unfold vErr
    rw [if_neg (by omega), if_neg (by simp; omega), if_pos (List.all_eq_true.2 fun x hx => by
      obtain ⟨y, _, rfl⟩ := List.mem_map.1 hx
      exact dp_in (by omega) (by omega) y)]
  exact (bErr_3 hv (by simp; omega) fun j hj => by
    obtain ⟨y, _, e⟩ := List.mem_map.1 (mem_getD hj)
    rw [← e]
    exact dp_in (by omega) (by omega) y).symm
theorem rcp_start (d : Rcp) {k : Nat} (hk : 0 < k ∧ k ≤ 5) (hp : d.p.length ≤ 3) : startE (d.num k) (d.ps k) = (d.num k, d.t0 k, 0) := by
  obtain ⟨h1, h2⟩ := num_ok d hk.1
  refine startE_3 (by omega) (by simp; omega) fun j hj => ?_
  obtain ⟨y, _, e⟩ := List.mem_map.1 (mem_getD hj)
  rw [← e]
  exact (p_shr (by omega) (by omega)).1 sub_andR
theorem rcp_small (d : Rcp) {k : Nat} (hk : 0 < k ∧ k ≤ 5) (hp : d.p.length ≤ 3) {p m : List Fd} : Small (d.num k).toNat p m (d.t0 k) := by
  obtain ⟨h1, h2⟩ := num_ok d hk.1
  exact start_small (by omega) (by simpa using hp) (by omega)
theorem rcp_tok (d : Rcp) {k : Nat} (hk : 0 < k ∧ k ≤ 5) (hp : d.p.length ≤ 3) : tok (d.num k) (d.t0 k) = true := by
  have := start_tok (d.num k) (d.ps k)
  rwa [rcp_start d hk hp] at this
section
variable {n : Int} {p m : List Fd} {l0 l : List Rw}
theorem any_next (h0 : tok n l0 = true) (hS : Small n.toNat p m l0) (hb : bErr n p m = 0) (hT : tok n l = true) (hC : ∃ σ, Ch n.toNat p m l0 l σ) {mu : Bool} {i a b : Int} (he : (applyE n l p m mu i a b).2.2 = 0) :
    (applyE n l p m mu i a b).1 = n ∧ tok n (applyE n l p m mu i a b).2.1 = true ∧ ∃ σ, Ch n.toNat p m l0 (applyE n l p m mu i a b).2.1 σ := by
  obtain ⟨σ, hC⟩ := hC
  have hck : ckE n l p m = 0 := (if_pos hT).trans hb
  by_cases hbad : badS l p m mu i a b
  · rw [applyE_b hck hbad] at he
    exact absurd he (by decide)
  · rw [applyE_g hck hbad] at he ⊢
    unfold badS at hbad
    have hix : okIx l p m (mu, i.toNat, a.toNat, b.toNat) := by
      refine ⟨show a.toNat < l.length by omega, show b.toNat < l.length by omega, fun e => ?_, fun e => ?_⟩
      · have e : mu = false := e
        subst e
        have : ¬ (p.length : Int) ≤ i := fun q => hbad (.inr (.inr (.inr (.inr (.inr (.inr (.inr ⟨rfl, q⟩)))))))
        show i.toNat < p.length
        omega
      · have e : mu = true := e
        subst e
        have : ¬ (m.length : Int) ≤ i := fun q => hbad (.inr (.inr (.inr (.inr (.inr (.inr (.inl ⟨rfl, q⟩)))))))
        show i.toNat < m.length
        omega
    obtain ⟨l', σ', e, h1, h2⟩ := hC.step h0 hS (bErr_ok hb).2.2.2.1 hT hix he
    rw [e]
    exact ⟨rfl, h1, σ', h2⟩
theorem any_end (h0 : tok n l0 = true) (hS : Small n.toNat p m l0) (hb : bErr n p m = 0) (hT : tok n l = true) (hC : ∃ σ, Ch n.toNat p m l0 l σ) : (chaseE FU n l p m).2 = (chaseE FU n l0 p m).2 ∧ (chaseE FU n l0 p m).2.2 = 0 := by
  obtain ⟨σ, hC⟩ := hC
  obtain ⟨sts, lend, σ1, e1, q1, q2, q3, _⟩ := chase_tr h0 hS hb hT hC
  obtain ⟨sts', lend', σ2, e2, r1, r2, r3, _⟩ := chase_tr h0 hS hb h0 Ch.start
  have := q1.unique q2 q3 r1 r2 r3 fun r hr => (tok_wel h0 r hr).1
  subst this
  rw [e1, e2]
  exact ⟨rfl, rfl⟩
theorem tr_next {lend : List Rw} {sts : List St} {i : Nat} (hi : i < sts.length) (h : TrZ n p m lend l (sts.drop i)) : tok n l = true ∧ okSt l p m (sts.getD i default) ∧ appE n l p m (sts.getD i default) = (n, (appE n l p m (sts.getD i default)).2.1, 0) ∧ ¬ (appE n l p m (sts.getD i default)).2.1 = l ∧ TrZ n p m lend (appE n l p m (sts.getD i default)).2.1 (sts.drop (i + 1)) := by
  have e : sts.drop i = sts.getD i default :: sts.drop (i + 1) := by
    rw [List.drop_eq_getElem_cons hi, List.getD_eq_getElem?_getD, List.getElem?_eq_getElem hi]; rfl
  rw [e] at h
  obtain ⟨h1, h2, l', h3, h4, h5⟩ := h
  rw [h3]
  exact ⟨h1, h2, rfl, h4, h5⟩
theorem tr_end {lend : List Rw} {sts : List St} {i : Nat} (hi : ¬ i < sts.length) (h : TrZ n p m lend l (sts.drop i)) : l = lend := by
  rw [List.drop_eq_nil_of_le (by omega)] at h
  exact h
end
theorem cPApply (n : Int) (l : List Rw) (p m : List Fd) (mu : Bool) (i a b : Int) : HPure Tryd.prog 33 [pT n l, pP (fdl p), pP (fdl m), .agg [.raw (.bool mu), .raw (.int .i64 i), .raw (.int .i64 a), .raw (.int .i64 b)]] (prOf [pT (applyE n l p m mu i a b).1 (applyE n l p m mu i a b).2.1, pI (applyE n l p m mu i a b).2.2]) := by
  cases mu with
  | false => exact cPApplyF n l p m i a b
  | true => exact cPApplyM n l p m i a b
theorem cRApplyA (n : Int) (l : List Rw) (p m : List Fd) (mu : Bool) (i a b : Int) : HPure Tryd.prog 34 [pT n l, pP (fdl p), pP (fdl m), .agg [.raw (.bool mu), .raw (.int .i64 i), .raw (.int .i64 a), .raw (.int .i64 b)]] (prOf [pT (applyE n l p m mu i a b).1 (applyE n l p m mu i a b).2.1, pI (applyE n l p m mu i a b).2.2]) := by
  cases mu with
  | false => exact cRApplyF n l p m i a b
  | true => exact cRApplyM n l p m i a b
theorem applyE_ok {n : Int} {l : List Rw} {p m : List Fd} {s : St} (hT : tok n l = true) (hb : bErr n p m = 0) (h : okSt l p m s) : applyE n l p m s.1 s.2.1 s.2.2.1 s.2.2.2 = appE n l p m s := by
  obtain ⟨mu, i, a, b⟩ := s
  have hck : ckE n l p m = 0 := (if_pos hT).trans hb
  obtain ⟨ha, hbb, h⟩ := h
  have ha : a < l.length := ha
  have hbb : b < l.length := hbb
  have hne : ¬ a = b := by
    rintro rfl
    rcases h with ⟨_, _, h⟩ | ⟨_, _, h⟩
    · rw [show stepF l (p.getD i default) a a = false from stepF_same] at h; cases h
    · rw [show stepM l (m.getD i default) a a = false from stepM_same ha] at h; cases h
  show applyE n l p m mu (i : Int) (a : Int) (b : Int) = _
  rw [applyE_g hck]
  · rfl
  · unfold badS
    rcases h with ⟨h1, h2, _⟩ | ⟨h1, h2, _⟩
    · have h1 : mu = false := h1
      subst h1
      have h2 : i < p.length := h2
      rintro (h | h | h | h | h | h | ⟨h, h3⟩ | ⟨h, h3⟩) <;> first | omega | cases h
    · have h1 : mu = true := h1
      subst h1
      have h2 : i < m.length := h2
      rintro (h | h | h | h | h | h | ⟨h, h3⟩ | ⟨h, h3⟩) <;> first | omega | cases h
theorem cPApplySt (n : Int) (l : List Rw) (p m : List Fd) (s : St) (hT : tok n l = true) (hb : bErr n p m = 0) (h : okSt l p m s) (he : appE n l p m s = (n, (appE n l p m s).2.1, 0)) : HPure Tryd.prog 33 [pT n l, pP (fdl p), pP (fdl m), s.pc] (prOf [pT n (appE n l p m s).2.1, pI 0]) := by
  have := cPApply n l p m s.1 s.2.1 s.2.2.1 s.2.2.2
  rw [applyE_ok hT hb h, he] at this
  exact this
theorem cEqStX (a : List St) : HPure Tryd.prog 27 [pP (stl a), pP (stl a)] (prOf [pB true]) := by
  have h := cEqSt a a
  rw [decide_eq_true rfl] at h
  exact h
theorem cRStartX (d : Rcp) (k : Nat) (hk : 0 < k ∧ k ≤ 5) (hp : d.p.length ≤ 3) : HPure Tryd.prog 21 [pI (d.num k), pP (asl (d.ps k))] (prOf [pT (d.num k) (d.t0 k), pI 0]) := by
  have h := cRStart (d.num k) (d.ps k)
  rw [rcp_start d hk hp] at h
  exact h
theorem tok_big {n : Int} {l : List Rw} (h : tok n l = true) : l.length ≤ 256 ∧ ∀ i, i < l.length → (l.getD i default).length ≤ 17592186044416 := by
  obtain ⟨h0, h16, h1, h2⟩ := tok_get h
  exact ⟨h1, fun i hi => by rw [h2 i hi]; omega⟩
end Go.Hx
end
