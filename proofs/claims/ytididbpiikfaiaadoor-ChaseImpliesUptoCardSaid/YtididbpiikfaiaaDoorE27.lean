/- A part of the proof: lemmas for the theorem of this claim, merged by a program of ours out of X14, Ch11, Ch12, Ch13. -/
import Derived.Test.YtididbpiikfaiaaDoorE18
import Derived.Test.YtididbpiikfaiaaDoorE26
set_option linter.all false
section
namespace Go.Hx
open Go.Proofs
set_option maxRecDepth 100000
theorem good56 : goodFn Tryd.prog 56 := ⟨Tryd.f56, Tryd.func56, by kernel_rfl, by kernel_rfl⟩
theorem cFirst (n : Int) (h16 : n ≤ 16) : HPure Tryd.prog 56 [pI n] (prOf [pZ (firstZ n)]) := by
  refine hpure_of (nt := 15) Trydok Tryd.func56 rfl rfl (Nat.le_of_ble_eq_true rfl) ?_; refine hw_seq ?_; refine hw_region (E := TrydE) Trydok ?_; refine rq rfl rfl rfl rfl rfl ?_; refine rg_nil ?_; show HW _ _ _ _ _
  refine hw_seq ?_; refine hw_region (E := TrydE) Trydok ?_; refine rq rfl rfl rfl rfl rfl ?_; refine rg_nil ?_
  refine hw_adopt 3 900 true 1 3 (lf zC (firstZ n)) (by decide) rfl (CoP.sl rfl (.inr rfl) (fun h => h) (fun i j hi _ => absurd hi (Nat.not_lt_zero i))) (.inr rfl) rfl ?_; show HW _ _ _ _ _; (iterate 2 refine hw_seq ?_)
  refine hw_region (E := TrydE) Trydok ?_; refine rq rfl rfl rfl rfl rfl ?_; refine rg_nil ?_; show HW _ _ _ _ _; refine hw_block ?_
  refine hw_loopK (ι := Nat) ⟨[(0, some _)], []⟩ ⟨⟨⟨_, rfl, CoR.refl _⟩, trivial⟩, trivial⟩ (fun i => ⟨[(3, some (.v (.one (.ref 900 i)))), (4, some (vI i))], [(900, some (.arr true 1 3 i (lf zC (firstZ n))))]⟩) (fun i => i ≤ n.toNat) (fun i => n.toNat - i) (0) (Nat.zero_le _) ⟨⟨⟨_, rfl, (by first | exact CoR.refl _ | exact coi (by omega) | exact cob (by simp_all))⟩, ⟨_, rfl, (by first | exact CoR.refl _ | exact coi (by omega) | exact cob (by simp_all))⟩, trivial⟩, ⟨⟨_, rfl, CoO.refl _⟩, trivial⟩⟩ ?_
  rintro i hi
  (iterate 2 refine hw_seq ?_); refine hw_region (E := TrydE) Trydok ?_; (iterate 3 refine rq rfl rfl rfl rfl rfl ?_); refine rg_nil ?_; show HW _ _ _ _ _; refine hw_cond _ rfl (fun r0 => ?_) (fun r0 => ?_)
  · skip
    have h0 := r0
    have h0 := of_decide_eq_true h0
    try simp only [Int.toNat_natCast] at h0
    refine hw_skip ?_; show HW _ _ _ _ _; refine hw_seq ?_; refine hw_block ?_; refine hw_region (E := TrydE) Trydok ?_; (iterate 2 refine rq rfl rfl rfl rfl rfl ?_); refine rm 0 rfl rfl rfl rfl rfl rfl ?_
    refine ra 1 true rfl rfl rfl rfl rfl rfl ?_; refine rq rfl rfl rfl rfl rfl ?_; refine rg_nil ?_; show HW _ _ _ _ _; refine hw_region (E := TrydE) Trydok ?_; (iterate 3 refine rq rfl rfl rfl rfl rfl ?_); refine rg_nil ?_
    refine ⟨i + 1, ?_, ?_, ?_⟩
    · show i + 1 ≤ _; omega
    · first | omega | (dsimp only; omega)
    · exact ⟨⟨⟨_, rfl, (by first | exact CoR.refl _ | exact coi (by omega) | exact cob (by simp_all))⟩, ⟨_, rfl, (by first | exact CoR.refl _ | exact coi (by omega) | exact cob (by simp_all))⟩, ⟨_, rfl, CoR.refl _⟩, trivial⟩, ⟨⟨_, rfl, (co_push (fun h => h) (fun j hj => by obtain rfl : j = 0 := (by omega); exact co_first (by omega)))⟩, trivial⟩⟩
  · skip
    have h0 := r0
    have h0 := of_decide_eq_false h0
    try simp only [Int.toNat_natCast] at h0
    refine hw_exit ?_; show HW _ _ _ _ _; refine hw_seq ?_; refine hw_freeze 3 rfl rfl rfl ?_; refine hw_region (E := TrydE) Trydok ?_; (iterate 2 refine rq rfl rfl rfl rfl rfl ?_); refine rg_nil ?_; show HW _ _ _ _ _
    refine hw_ret ?_; refine ⟨.inr rfl, ?_⟩
    exact ⟨_, _, _, _, rfl, (by (repeat' apply And.intro) <;> first | trivial | exact Nat.le_of_ble_eq_true rfl | rfl), rfl, (by (repeat' apply And.intro) <;> first | trivial | exact Nat.le_of_ble_eq_true rfl | rfl), ⟨CoC.one (CoP.sl (by rw [firstZ_len]; omega) (.inl rfl) (fun h => h) fun a j ha hj => CoP.refl _), trivial⟩⟩
theorem good22 : goodFn Tryd.prog 22 := ⟨Tryd.f22, Tryd.func22, by kernel_rfl, by kernel_rfl⟩
theorem cSameT (n k : Int) (l m : List Rw) : HPure Tryd.prog 22 [pT n l, pT k m] (prOf [pB (decide (n = k ∧ l = m))]) := by
  refine hpure_of (nt := 39) Trydok Tryd.func22 rfl rfl (Nat.le_of_ble_eq_true rfl) ?_; refine hw_seq ?_; refine hw_region (E := TrydE) Trydok ?_; refine rm 0 rfl rfl rfl rfl rfl rfl ?_; refine rm 1 rfl rfl rfl rfl rfl rfl ?_
  refine rq rfl rfl rfl rfl rfl ?_; refine rg_nil ?_; show HW _ _ _ _ _; (iterate 2 refine hw_seq ?_); refine hw_region (E := TrydE) Trydok ?_; (iterate 6 refine rq rfl rfl rfl rfl rfl ?_)
  refine rsplit rfl rfl (fun r0 => ?_) (fun r0 => ?_)
  · skip
    have h0 := r0
    have h0 := of_decide_eq_false (not_t h0)
    try simp only [Int.toNat_natCast] at h0
    (iterate 7 refine rk rfl rfl rfl (gtf r0) ?_); refine rq rfl rfl rfl rfl rfl ?_ (hp := r0); refine rg_nil ?_; show HW _ _ _ _ _; refine hw_cond _ rfl (fun _ => ?_) (fun e => by cases e); refine hw_seq ?_
    refine hw_region (E := TrydE) Trydok ?_; refine rq rfl rfl rfl rfl rfl ?_; refine rg_nil ?_; show HW _ _ _ _ _; refine hw_ret ?_; refine ⟨.inr rfl, ?_⟩
    exact ⟨_, _, _, _, rfl, (by (repeat' apply And.intro) <;> first | trivial | exact Nat.le_of_ble_eq_true rfl | rfl), rfl, (by (repeat' apply And.intro) <;> first | trivial | exact Nat.le_of_ble_eq_true rfl | rfl), ⟨ccb (decide_eq_false fun e => by obtain ⟨rfl, rfl⟩ := e; omega).symm, trivial⟩⟩
  · skip
    have h0 := r0
    have h0 := of_decide_eq_true (not_f h0)
    try simp only [Int.toNat_natCast] at h0
    (iterate 7 refine rq rfl rfl rfl rfl (gff r0) ?_); refine rq rfl rfl rfl rfl rfl ?_; refine rg_nil ?_; show HW _ _ _ _ _; refine hw_cond _ rfl (fun r1 => ?_) (fun r1 => ?_)
    · skip
      have h1 := r1
      have h1 := bif_f r0 h1
      have h1 := of_decide_eq_false (not_t h1)
      try simp only [Int.toNat_natCast] at h1
      refine hw_seq ?_; refine hw_region (E := TrydE) Trydok ?_; refine rq rfl rfl rfl rfl rfl ?_; refine rg_nil ?_; show HW _ _ _ _ _; refine hw_ret ?_; refine ⟨.inr rfl, ?_⟩
      exact ⟨_, _, _, _, rfl, (by (repeat' apply And.intro) <;> first | trivial | exact Nat.le_of_ble_eq_true rfl | rfl), rfl, (by (repeat' apply And.intro) <;> first | trivial | exact Nat.le_of_ble_eq_true rfl | rfl), ⟨ccb (decide_eq_false fun e => by obtain ⟨rfl, rfl⟩ := e; omega).symm, trivial⟩⟩
    · skip
      have h1 := r1
      have h1 := bif_f r0 h1
      have h1 := of_decide_eq_true (not_f h1)
      try simp only [Int.toNat_natCast] at h1
      refine hw_skip ?_; show HW _ _ _ _ _; refine hw_joinK (ι := Unit) ⟨[], []⟩ ⟨trivial, trivial⟩ (fun _i => ⟨[], []⟩) (fun _i => n = k ∧ l = m) ?_ ?_
      · skip
        refine hw_seq ?_
        refine hw_bo 0 1 rfl rfl fun hn => ?_
        refine hw_region (E := TrydE) Trydok ?_; refine rq rfl rfl rfl rfl rfl ?_; refine rg_nil ?_; show HW _ _ _ _ _; refine hw_block ?_
        refine hw_loopK (ι := Nat) ⟨[(2, some _), (3, some _)], [(0, some _), (1, some _)]⟩ ⟨⟨⟨_, rfl, CoR.refl _⟩, ⟨_, rfl, CoR.refl _⟩, trivial⟩, ⟨⟨_, rfl, CoO.refl _⟩, ⟨_, rfl, CoO.refl _⟩, trivial⟩⟩ (fun i => ⟨[(5, some (vI i))], []⟩) (fun i => i ≤ l.length ∧ (∀ j, j < i → l.getD j default = m.getD j default)) (fun i => l.length - i) (0) (⟨Nat.zero_le _, all_zero⟩) ⟨⟨⟨_, rfl, (by first | exact CoR.refl _ | exact coi (by omega) | exact cob (by simp_all))⟩, trivial⟩, trivial⟩ ?_
        rintro i ⟨hi, hI⟩
        (iterate 2 refine hw_seq ?_); refine hw_region (E := TrydE) Trydok ?_; (iterate 5 refine rq rfl rfl rfl rfl rfl ?_); refine rg_nil ?_; show HW _ _ _ _ _; refine hw_cond _ rfl (fun r2 => ?_) (fun r2 => ?_)
        · skip
          have h2 := r2
          have h2 := of_decide_eq_true h2
          try simp only [Int.toNat_natCast] at h2
          refine hw_skip ?_; show HW _ _ _ _ _; refine hw_seq ?_; refine hw_block ?_; refine hw_seq ?_; refine hw_draw (E := TrydE) Trydok Trydmixed [0, 1, 2, 3, 4, 5, 6, 7, 8, 9, 10, 11] ?_
          (iterate 10 refine rq rfl rfl rfl rfl rfl ?_); refine rc rfl rfl rfl rfl rfl rfl good42 (cInts _ _) (CoL.refl _) rfl rfl ?_; refine rq rfl rfl rfl rfl rfl ?_; refine rg_nil ?_; refine ⟨by kernel_rfl, ?_⟩; show HW _ _ _ _ _
          refine hw_cond _ rfl (fun r3 => ?_) (fun r3 => ?_)
          · skip
            have h3 := r3
            have h3 := not_t h3
            refine hw_seq ?_; refine hw_region (E := TrydE) Trydok ?_; refine rq rfl rfl rfl rfl rfl ?_; refine rg_nil ?_; show HW _ _ _ _ _; refine hw_ret ?_; refine ⟨.inr rfl, ?_⟩
            exact ⟨_, _, _, _, rfl, (by (repeat' apply And.intro) <;> first | trivial | exact Nat.le_of_ble_eq_true rfl | rfl), rfl, (by (repeat' apply And.intro) <;> first | trivial | exact Nat.le_of_ble_eq_true rfl | rfl), ⟨ccb (decide_eq_false fun e => by obtain ⟨rfl, rfl⟩ := e; simp_all).symm, trivial⟩⟩
          · skip
            have h3 := r3
            have h3 := not_f h3
            refine hw_skip ?_; show HW _ _ _ _ _; refine hw_region (E := TrydE) Trydok ?_; (iterate 3 refine rq rfl rfl rfl rfl rfl ?_); refine rg_nil ?_; refine ⟨i + 1, ?_, ?_, ?_⟩
            · exact ⟨by show i + 1 ≤ _; omega, all_succ hI (by first | assumption | exact of_decide_eq_true (by assumption))⟩
            · first | omega | (dsimp only; omega)
            · exact ⟨⟨⟨_, rfl, (by first | exact CoR.refl _ | exact coi (by omega) | exact cob (by simp_all))⟩, ⟨_, rfl, CoR.refl _⟩, ⟨_, rfl, CoR.refl _⟩, trivial⟩, ⟨⟨_, rfl, CoO.refl _⟩, ⟨_, rfl, CoO.refl _⟩, trivial⟩⟩
        · skip
          have h2 := r2
          have h2 := of_decide_eq_false h2
          try simp only [Int.toNat_natCast] at h2
          refine hw_exit ?_; refine ⟨(), ?_, ?_⟩
          · exact tab_eq (by omega) (by omega) fun j hj => hI j (by omega)
          · exact ⟨trivial, trivial⟩
      · rintro _ hj
        refine hw_seq ?_; refine hw_region (E := TrydE) Trydok ?_; refine rq rfl rfl rfl rfl rfl ?_; refine rg_nil ?_; show HW _ _ _ _ _; refine hw_ret ?_; refine ⟨.inr rfl, ?_⟩
        exact ⟨_, _, _, _, rfl, (by (repeat' apply And.intro) <;> first | trivial | exact Nat.le_of_ble_eq_true rfl | rfl), rfl, (by (repeat' apply And.intro) <;> first | trivial | exact Nat.le_of_ble_eq_true rfl | rfl), ⟨ccb (decide_eq_true hj).symm, trivial⟩⟩
theorem good21 : goodFn Tryd.prog 21 := ⟨Tryd.f21, Tryd.func21, by kernel_rfl, by kernel_rfl⟩
theorem cRStart (n : Int) (ps : List AS) : HPure Tryd.prog 21 [pI n, pP (asl ps)] (prOf [pT (startE n ps).1 (startE n ps).2.1, pI (startE n ps).2.2]) := by
  refine hpure_of (nt := 68) Trydok Tryd.func21 rfl rfl (Nat.le_of_ble_eq_true rfl) ?_; refine hw_seq ?_; refine hw_region (E := TrydE) Trydok ?_; refine rm 0 rfl rfl rfl rfl rfl rfl ?_; refine rq rfl rfl rfl rfl rfl ?_
  refine rg_nil ?_; show HW _ _ _ _ _; (iterate 2 refine hw_seq ?_); refine hw_region (E := TrydE) Trydok ?_; (iterate 3 refine rq rfl rfl rfl rfl rfl ?_); refine rsplit rfl rfl (fun r0 => ?_) (fun r0 => ?_)
  · skip
    have h0 := r0
    have h0 := of_decide_eq_true h0
    try simp only [Int.toNat_natCast] at h0
    (iterate 2 refine rk rfl rfl rfl (gtf r0) ?_); refine rq rfl rfl rfl rfl rfl ?_ (hp := r0); refine rg_nil ?_; show HW _ _ _ _ _; refine hw_cond _ rfl (fun _ => ?_) (fun e => by cases e); refine hw_seq ?_
    refine hw_region (E := TrydE) Trydok ?_; refine rq rfl rfl rfl rfl rfl ?_; refine rs rfl rfl rfl rfl rfl ?_; refine rq rfl rfl rfl rfl rfl ?_; refine rg_nil ?_; show HW _ _ _ _ _; refine hw_ret ?_; refine ⟨.inr rfl, ?_⟩
    have he := startE_0 (n := n) (ps := ps) (by omega)
    exact ⟨_, _, _, _, rfl, (by (repeat' apply And.intro) <;> first | trivial | exact Nat.le_of_ble_eq_true rfl | rfl), rfl, (by (repeat' apply And.intro) <;> first | trivial | exact Nat.le_of_ble_eq_true rfl | rfl), by rw [he]; exact ⟨CoC.agg ⟨CoP.refl _, co_nilZ, trivial⟩, CoC.refl _, trivial⟩⟩
  · skip
    have h0 := r0
    have h0 := of_decide_eq_false h0
    try simp only [Int.toNat_natCast] at h0
    (iterate 2 refine rq rfl rfl rfl rfl (gff r0) ?_); refine rq rfl rfl rfl rfl rfl ?_; refine rg_nil ?_; show HW _ _ _ _ _; refine hw_cond _ rfl (fun r1 => ?_) (fun r1 => ?_)
    · skip
      have h1 := r1
      have h1 := bif_f r0 h1
      have h1 := of_decide_eq_true h1
      try simp only [Int.toNat_natCast] at h1
      refine hw_seq ?_; refine hw_region (E := TrydE) Trydok ?_; refine rq rfl rfl rfl rfl rfl ?_; refine rs rfl rfl rfl rfl rfl ?_; refine rq rfl rfl rfl rfl rfl ?_; refine rg_nil ?_; show HW _ _ _ _ _; refine hw_ret ?_
      refine ⟨.inr rfl, ?_⟩
      have he := startE_0 (n := n) (ps := ps) (by omega)
      exact ⟨_, _, _, _, rfl, (by (repeat' apply And.intro) <;> first | trivial | exact Nat.le_of_ble_eq_true rfl | rfl), rfl, (by (repeat' apply And.intro) <;> first | trivial | exact Nat.le_of_ble_eq_true rfl | rfl), by rw [he]; exact ⟨CoC.agg ⟨CoP.refl _, co_nilZ, trivial⟩, CoC.refl _, trivial⟩⟩
    · skip
      have h1 := r1
      have h1 := bif_f r0 h1
      have h1 := of_decide_eq_false h1
      try simp only [Int.toNat_natCast] at h1
      refine hw_skip ?_; show HW _ _ _ _ _; (iterate 2 refine hw_seq ?_); refine hw_region (E := TrydE) Trydok ?_; (iterate 3 refine rq rfl rfl rfl rfl rfl ?_); refine rg_nil ?_; show HW _ _ _ _ _
      refine hw_cond _ rfl (fun r2 => ?_) (fun r2 => ?_)
      · skip
        have h2 := r2
        have h2 := of_decide_eq_true h2
        try simp only [Int.toNat_natCast] at h2
        refine hw_seq ?_; refine hw_region (E := TrydE) Trydok ?_; refine rq rfl rfl rfl rfl rfl ?_; refine rs rfl rfl rfl rfl rfl ?_; refine rq rfl rfl rfl rfl rfl ?_; refine rg_nil ?_; show HW _ _ _ _ _; refine hw_ret ?_
        refine ⟨.inr rfl, ?_⟩
        have he := startE_1 (n := n) (ps := ps) (by omega) (by omega)
        exact ⟨_, _, _, _, rfl, (by (repeat' apply And.intro) <;> first | trivial | exact Nat.le_of_ble_eq_true rfl | rfl), rfl, (by (repeat' apply And.intro) <;> first | trivial | exact Nat.le_of_ble_eq_true rfl | rfl), by rw [he]; exact ⟨CoC.agg ⟨CoP.refl _, co_nilZ, trivial⟩, CoC.refl _, trivial⟩⟩
      · skip
        have h2 := r2
        have h2 := of_decide_eq_false h2
        try simp only [Int.toNat_natCast] at h2
        refine hw_skip ?_; show HW _ _ _ _ _; refine hw_seq ?_; refine hw_region (E := TrydE) Trydok ?_; refine rq rfl rfl rfl rfl rfl ?_; refine rg_nil ?_
        refine hw_adopt 6 900 true 1 25 (lf rC (stRows n ps)) (by decide) rfl (CoP.sl rfl (.inr rfl) (fun h => h) (fun i j hi _ => absurd hi (Nat.not_lt_zero i))) (.inr rfl) rfl ?_; show HW _ _ _ _ _; (iterate 2 refine hw_seq ?_)
        refine hw_region (E := TrydE) Trydok ?_; refine rq rfl rfl rfl rfl rfl ?_; refine rg_nil ?_; show HW _ _ _ _ _; refine hw_block ?_
        refine hw_loopK (ι := Nat) ⟨[(0, some _), (1, some _), (4, some _)], [(0, some _)]⟩ ⟨⟨⟨_, rfl, CoR.refl _⟩, ⟨_, rfl, CoR.refl _⟩, ⟨_, rfl, CoR.refl _⟩, trivial⟩, ⟨⟨_, rfl, CoO.refl _⟩, trivial⟩⟩ (fun i => ⟨[(6, some (.v (.one (.ref 900 i)))), (7, some (vI i))], [(900, some (.arr true 1 25 i (lf rC (stRows n ps))))]⟩) (fun i => i ≤ ps.length ∧ ∀ j, j < i → (ps.getD j default) >>> n.toNat = 0) (fun i => ps.length - i) (0) (⟨Nat.zero_le _, all_zero⟩) ⟨⟨⟨_, rfl, (by first | exact CoR.refl _ | exact coi (by omega) | exact cob (by simp_all))⟩, ⟨_, rfl, (by first | exact CoR.refl _ | exact coi (by omega) | exact cob (by simp_all))⟩, trivial⟩, ⟨⟨_, rfl, CoO.refl _⟩, trivial⟩⟩ ?_
        rintro i ⟨hi, hI⟩
        (iterate 2 refine hw_seq ?_); refine hw_region (E := TrydE) Trydok ?_; (iterate 4 refine rq rfl rfl rfl rfl rfl ?_); refine rg_nil ?_; show HW _ _ _ _ _; refine hw_cond _ rfl (fun r3 => ?_) (fun r3 => ?_)
        · skip
          have h3 := r3
          have h3 := of_decide_eq_true h3
          try simp only [Int.toNat_natCast] at h3
          have hin := mulB (n := n) (i := i) (by omega) (by omega) (by omega)
          refine hw_skip ?_; show HW _ _ _ _ _; refine hw_seq ?_; refine hw_block ?_; (iterate 2 refine hw_seq ?_); refine hw_draw (E := TrydE) Trydok Trydmixed [0, 1, 2, 3, 4, 5, 6, 7] ?_
          (iterate 5 refine rq rfl rfl rfl rfl rfl ?_); refine rc rfl rfl rfl rfl rfl rfl good30 (cRFull n) (CoL.refl _) rfl rfl ?_; refine rc rfl rfl rfl rfl rfl rfl good44 (cRSub _ _) (CoL.refl _) rfl rfl ?_
          refine rq rfl rfl rfl rfl rfl ?_; refine rg_nil ?_; refine ⟨by kernel_rfl, ?_⟩; show HW _ _ _ _ _; refine hw_cond _ rfl (fun r4 => ?_) (fun r4 => ?_)
          · skip
            have h4 := r4
            have h4 := not_t h4
            refine hw_seq ?_; refine hw_region (E := TrydE) Trydok ?_; refine rq rfl rfl rfl rfl rfl ?_; refine rs rfl rfl rfl rfl rfl ?_; refine rq rfl rfl rfl rfl rfl ?_; refine rg_nil ?_; show HW _ _ _ _ _; refine hw_ret ?_
            refine ⟨.inr rfl, ?_⟩
            have he := startE_2 (n := n) (ps := ps) (i := i) (by omega) (by omega) (by omega) (fun e => by have := (p_shr (n := n) (by omega) (by omega)).2 e; simp_all)
            exact ⟨_, _, _, _, rfl, (by (repeat' apply And.intro) <;> first | trivial | exact Nat.le_of_ble_eq_true rfl | rfl), rfl, (by (repeat' apply And.intro) <;> first | trivial | exact Nat.le_of_ble_eq_true rfl | rfl), by rw [he]; exact ⟨CoC.agg ⟨CoP.refl _, co_nilZ, trivial⟩, CoC.refl _, trivial⟩⟩
          · skip
            have h4 := r4
            have h4 := not_f h4
            refine hw_skip ?_; show HW _ _ _ _ _; refine hw_seq ?_; refine hw_region (E := TrydE) Trydok ?_; refine rq rfl rfl rfl rfl rfl ?_; refine rg_nil ?_
            refine hw_adopt 8 901 true 1 3 (lf zC (stR n i (ps.getD i default))) (by decide) rfl (CoP.sl rfl (.inr rfl) (fun h => h) (fun i j hi _ => absurd hi (Nat.not_lt_zero i))) (.inr rfl) rfl ?_; show HW _ _ _ _ _
            (iterate 2 refine hw_seq ?_); refine hw_region (E := TrydE) Trydok ?_; refine rq rfl rfl rfl rfl rfl ?_; refine rg_nil ?_; show HW _ _ _ _ _; refine hw_block ?_
            refine hw_loopK (ι := Nat) ⟨[(0, some _), (1, some _), (4, some _), (6, some _), (7, some _)], [(900, some _), (0, some _)]⟩ ⟨⟨⟨_, rfl, CoR.refl _⟩, ⟨_, rfl, CoR.refl _⟩, ⟨_, rfl, CoR.refl _⟩, ⟨_, rfl, CoR.refl _⟩, ⟨_, rfl, CoR.refl _⟩, trivial⟩, ⟨⟨_, rfl, CoO.refl _⟩, ⟨_, rfl, CoO.refl _⟩, trivial⟩⟩ (fun k => ⟨[(8, some (.v (.one (.ref 901 k)))), (9, some (vI k))], [(901, some (.arr true 1 3 k (lf zC (stR n i (ps.getD i default)))))]⟩) (fun k => k ≤ n.toNat) (fun k => n.toNat - k) (0) (Nat.zero_le _) ⟨⟨⟨_, rfl, (by first | exact CoR.refl _ | exact coi (by omega) | exact cob (by simp_all))⟩, ⟨_, rfl, (by first | exact CoR.refl _ | exact coi (by omega) | exact cob (by simp_all))⟩, trivial⟩, ⟨⟨_, rfl, CoO.refl _⟩, trivial⟩⟩ ?_
            rintro k hk
            (iterate 2 refine hw_seq ?_); refine hw_region (E := TrydE) Trydok ?_; (iterate 3 refine rq rfl rfl rfl rfl rfl ?_); refine rg_nil ?_; show HW _ _ _ _ _; refine hw_cond _ rfl (fun r5 => ?_) (fun r5 => ?_)
            · skip
              have h5 := r5
              have h5 := of_decide_eq_true h5
              try simp only [Int.toNat_natCast] at h5
              refine hw_skip ?_; show HW _ _ _ _ _; refine hw_seq ?_; refine hw_block ?_; refine hw_seq ?_; refine hw_region (E := TrydE) Trydok ?_; (iterate 5 refine rq rfl rfl rfl rfl rfl ?_)
              refine rc rfl rfl rfl rfl rfl rfl good45 (cHas (ps.getD i default) (k : Int)) (CoL.refl _) rfl rfl ?_; refine rg_nil ?_; show HW _ _ _ _ _; refine hw_cond _ rfl (fun r6 => ?_) (fun r6 => ?_)
              · skip
                have h6 := r6
                refine hw_region (E := TrydE) Trydok ?_; (iterate 2 refine rq rfl rfl rfl rfl rfl ?_); refine rm 1 rfl rfl rfl rfl rfl rfl ?_; refine ra 2 true rfl rfl rfl rfl rfl rfl ?_; refine rq rfl rfl rfl rfl rfl ?_
                refine rg_nil ?_; show HW _ _ _ _ _; refine hw_region (E := TrydE) Trydok ?_; (iterate 3 refine rq rfl rfl rfl rfl rfl ?_); refine rg_nil ?_; refine ⟨k + 1, ?_, ?_, ?_⟩
                · show k + 1 ≤ _; omega
                · first | omega | (dsimp only; omega)
                · exact ⟨⟨⟨_, rfl, (by first | exact CoR.refl _ | exact coi (by omega) | exact cob (by simp_all))⟩, ⟨_, rfl, (by first | exact CoR.refl _ | exact coi (by omega) | exact cob (by simp_all))⟩, ⟨_, rfl, CoR.refl _⟩, ⟨_, rfl, CoR.refl _⟩, ⟨_, rfl, CoR.refl _⟩, ⟨_, rfl, CoR.refl _⟩, ⟨_, rfl, CoR.refl _⟩, trivial⟩, ⟨⟨_, rfl, (by first | exact (co_push (fun h => h) (fun j hj => by obtain rfl : j = 0 := (by omega); exact co_stv1 (by omega) (by assumption))) | exact (co_push (fun h => h) (fun j hj => by obtain rfl : j = 0 := (by omega); exact co_stv2 (by omega) (by assumption))))⟩, ⟨_, rfl, CoO.refl _⟩, ⟨_, rfl, CoO.refl _⟩, trivial⟩⟩
              · skip
                have h6 := r6
                refine hw_region (E := TrydE) Trydok ?_; (iterate 8 refine rq rfl rfl rfl rfl rfl ?_); refine rm 3 rfl rfl rfl rfl rfl rfl ?_; refine ra 4 true rfl rfl rfl rfl rfl rfl ?_; refine rq rfl rfl rfl rfl rfl ?_
                refine rg_nil ?_; show HW _ _ _ _ _; refine hw_region (E := TrydE) Trydok ?_; (iterate 3 refine rq rfl rfl rfl rfl rfl ?_); refine rg_nil ?_; refine ⟨k + 1, ?_, ?_, ?_⟩
                · show k + 1 ≤ _; omega
                · first | omega | (dsimp only; omega)
                · exact ⟨⟨⟨_, rfl, (by first | exact CoR.refl _ | exact coi (by omega) | exact cob (by simp_all))⟩, ⟨_, rfl, (by first | exact CoR.refl _ | exact coi (by omega) | exact cob (by simp_all))⟩, ⟨_, rfl, CoR.refl _⟩, ⟨_, rfl, CoR.refl _⟩, ⟨_, rfl, CoR.refl _⟩, ⟨_, rfl, CoR.refl _⟩, ⟨_, rfl, CoR.refl _⟩, trivial⟩, ⟨⟨_, rfl, (by first | exact (co_push (fun h => h) (fun j hj => by obtain rfl : j = 0 := (by omega); exact co_stv1 (by omega) (by assumption))) | exact (co_push (fun h => h) (fun j hj => by obtain rfl : j = 0 := (by omega); exact co_stv2 (by omega) (by assumption))))⟩, ⟨_, rfl, CoO.refl _⟩, ⟨_, rfl, CoO.refl _⟩, trivial⟩⟩
            · skip
              have h5 := r5
              have h5 := of_decide_eq_false h5
              try simp only [Int.toNat_natCast] at h5
              refine hw_exit ?_; show HW _ _ _ _ _; refine hw_freeze 8 rfl rfl rfl ?_; refine hw_region (E := TrydE) Trydok ?_; (iterate 2 refine rq rfl rfl rfl rfl rfl ?_); refine rm 5 rfl rfl rfl rfl rfl rfl ?_
              refine ra 6 true rfl rfl rfl rfl rfl rfl ?_; refine rq rfl rfl rfl rfl rfl ?_; refine rg_nil ?_; show HW _ _ _ _ _; refine hw_region (E := TrydE) Trydok ?_; (iterate 3 refine rq rfl rfl rfl rfl rfl ?_)
              refine rg_nil ?_; refine ⟨i + 1, ?_, ?_, ?_⟩
              · exact ⟨by show i + 1 ≤ _; omega, all_succ hI ((p_shr (by omega) (by omega)).1 (by first | assumption | exact of_decide_eq_true (by assumption)))⟩
              · first | omega | (dsimp only; omega)
              · exact ⟨⟨⟨_, rfl, (by first | exact CoR.refl _ | exact coi (by omega) | exact cob (by simp_all))⟩, ⟨_, rfl, (by first | exact CoR.refl _ | exact coi (by omega) | exact cob (by simp_all))⟩, ⟨_, rfl, CoR.refl _⟩, ⟨_, rfl, CoR.refl _⟩, ⟨_, rfl, CoR.refl _⟩, trivial⟩, ⟨⟨_, rfl, (co_push (fun h => h) (fun j hj => by obtain rfl : j = 0 := (by omega); exact co_strowR (by omega) (by omega)))⟩, ⟨_, rfl, CoO.refl _⟩, trivial⟩⟩
        · skip
          have h3 := r3
          have h3 := of_decide_eq_false h3
          try simp only [Int.toNat_natCast] at h3
          obtain rfl : i = ps.length := by omega
          refine hw_exit ?_; show HW _ _ _ _ _; refine hw_seq ?_; refine hw_freeze 6 rfl rfl rfl ?_; refine hw_region (E := TrydE) Trydok ?_; (iterate 2 refine rq rfl rfl rfl rfl rfl ?_)
          refine rc rfl rfl rfl rfl rfl rfl good46 (cRSorted n (stRows n ps) (by rw [stRows_len]; omega)) (⟨CoC.refl _, CoC.one (CoP.sl (by rw [stRows_len]) (.inl rfl) (fun h => h) fun a j ha hj => CoP.refl _), trivial⟩) rfl rfl ?_
          refine rs rfl rfl rfl rfl rfl ?_; refine rq rfl rfl rfl rfl rfl ?_; refine rg_nil ?_; show HW _ _ _ _ _; refine hw_ret ?_; refine ⟨.inr rfl, ?_⟩
          have he := startE_3 (n := n) (ps := ps) (by omega) (by omega) (fun j hj => hI j (by omega))
          exact ⟨_, _, _, _, rfl, (by (repeat' apply And.intro) <;> first | trivial | exact Nat.le_of_ble_eq_true rfl | rfl), rfl, (by (repeat' apply And.intro) <;> first | trivial | exact Nat.le_of_ble_eq_true rfl | rfl), by rw [he]; exact CoL.refl _⟩
end Go.Hx
end
section
namespace Go.Hx
def Wel (n : Int) (l : List Rw) : Prop := ∀ r, r ∈ l → r.length = n.toNat ∧ ∀ z, z ∈ r → 0 ≤ z
theorem getZ_in {l : List Rw} {i : Nat} (h : i < l.length) : l.getD i default ∈ l := by
  rw [List.getD_eq_getElem?_getD, List.getElem?_eq_getElem h]
  exact List.getElem_mem h
theorem tok_wel {n : Int} {l : List Rw} (h : tok n l = true) : Wel n l := by
  obtain ⟨h0, h1, h2, h3⟩ := tok_get h
  unfold tok at h
  rw [Bool.and_eq_true, decide_eq_true_iff, decide_eq_true_iff] at h
  rintro r hr
  obtain ⟨i, hi, rfl⟩ := List.getElem_of_mem hr
  have e : l.getD i default = l[i] := by rw [List.getD_eq_getElem?_getD, List.getElem?_eq_getElem hi]; rfl
  rw [← e]
  refine ⟨h3 i hi, fun z hz => ?_⟩
  have := h.2 i hi
  unfold tokR at this
  rw [Bool.and_eq_true, Bool.and_eq_true] at this
  have h4 := this.1.2
  rw [Bool.not_eq_true', List.any_eq_false] at h4
  have := h4 z hz
  rw [decide_eq_true_iff] at this
  omega
theorem tok_ord {n : Int} {l : List Rw} (h : tok n l = true) : OrdZ l := by
  unfold tok at h
  rw [Bool.and_eq_true, decide_eq_true_iff, decide_eq_true_iff] at h
  have hs : ∀ d i : Nat, i + d + 1 < l.length → ltZ (l.getD i default) (l.getD (i + d + 1) default) = true := by
    intro d
    induction d with
    | zero =>
      intro i hi
      have := h.2 (i + 1) hi
      unfold tokR at this
      rw [Bool.and_eq_true, Bool.or_eq_true, decide_eq_true_iff] at this
      rcases this.2 with h5 | h5
      · omega
      · exact h5
    | succ d ih =>
      intro i hi
      have h1 := ih i (by omega)
      have := h.2 (i + d + 1 + 1) (by omega)
      unfold tokR at this
      rw [Bool.and_eq_true, Bool.or_eq_true, decide_eq_true_iff] at this
      rcases this.2 with h5 | h5
      · omega
      · exact ltZ_trans h1 h5
  unfold OrdZ
  rw [List.pairwise_iff_getElem]
  intro i j hi hj hij
  obtain ⟨d, rfl⟩ : ∃ d, j = i + d + 1 := ⟨j - i - 1, by omega⟩
  have := hs d i hj
  rwa [List.getD_eq_getElem?_getD, List.getElem?_eq_getElem hi, List.getD_eq_getElem?_getD, List.getElem?_eq_getElem hj] at this
theorem tok_of {n : Int} {l : List Rw} (h0 : 0 ≤ n) (h1 : n ≤ 16) (h2 : l.length ≤ 256) (hw : Wel n l) (ho : OrdZ l) : tok n l = true := by
  refine tok_t h0 h1 h2 fun i hi => ?_
  obtain ⟨h3, h4⟩ := hw _ (getZ_in hi)
  refine tokR_t (by omega) ?_ ?_
  · rw [List.any_eq_false]
    intro z hz
    have := h4 z hz
    rw [decide_eq_true_iff]
    omega
  · rcases Nat.eq_zero_or_pos i with h | h
    · exact .inl h
    · right
      have := List.pairwise_iff_getElem.1 ho (i - 1) i (by omega) hi (by omega)
      rw [List.getD_eq_getElem?_getD, List.getElem?_eq_getElem (by omega), List.getD_eq_getElem?_getD, List.getElem?_eq_getElem hi]
      exact this
theorem tok_canon {n : Int} {l : List Rw} (h0 : 0 ≤ n) (h1 : n ≤ 16) (h2 : (canon l).length ≤ 256) (hw : Wel n l) : tok n (canon l) = true :=
  tok_of h0 h1 h2 (fun r hr => hw r (mem_canon.1 hr)) (ordZ_canon l)
def inV (l : List Rw) (M : Nat → Nat → Int) (z : Int) : Prop := ∃ i r, i < l.length ∧ r < (l.getD i default).length ∧ M i r = z
theorem inV_mat {l : List Rw} {z : Int} : inV l (matOf l) z ↔ ∃ r, r ∈ l ∧ z ∈ r := by
  constructor
  · rintro ⟨i, r, hi, hr, rfl⟩
    refine ⟨_, getZ_in hi, ?_⟩
    show (l.getD i default).getD r default ∈ _
    rw [List.getD_eq_getElem?_getD (l := l.getD i default), List.getElem?_eq_getElem hr]
    exact List.getElem_mem hr
  · rintro ⟨r, hr, hz⟩
    obtain ⟨i, hi, rfl⟩ := List.getElem_of_mem hr
    obtain ⟨k, hk, rfl⟩ := List.getElem_of_mem hz
    have e : l.getD i default = l[i] := by rw [List.getD_eq_getElem?_getD, List.getElem?_eq_getElem hi]; rfl
    refine ⟨i, k, hi, by rw [e]; exact hk, ?_⟩
    show (l.getD i default).getD k default = _
    rw [e, List.getD_eq_getElem?_getD, List.getElem?_eq_getElem hk]
    rfl
theorem inV_rows {l : List Rw} {M : Nat → Nat → Int} {z : Int} : (∃ r, r ∈ rowsOf l M ∧ z ∈ r) ↔ inV l M z := by
  constructor
  · rintro ⟨r, hr, hz⟩
    unfold rowsOf at hr
    rw [List.mem_map] at hr
    obtain ⟨i, hi, rfl⟩ := hr
    rw [List.mem_map] at hz
    obtain ⟨k, hk, rfl⟩ := hz
    exact ⟨i, k, List.mem_range.1 hi, List.mem_range.1 hk, rfl⟩
  · rintro ⟨i, k, hi, hk, rfl⟩
    refine ⟨(List.range (l.getD i default).length).map (M i), ?_, List.mem_map.2 ⟨k, List.mem_range.2 hk, rfl⟩⟩
    unfold rowsOf
    exact List.mem_map.2 ⟨i, List.mem_range.2 hi, rfl⟩
section
variable {l : List Rw} {a b : Nat} (ha : a < l.length) (hb : b < l.length)
theorem lo_or (x y : Int) : loI x y = x ∨ loI x y = y := by unfold loI; split <;> simp
theorem hi_or (x y : Int) : hiI x y = x ∨ hiI x y = y := by unfold hiI; split <;> simp
include ha hb in
theorem eqM_V {M : Nat → Nat → Int} {j : Nat} (hja : j < (l.getD a default).length) (hjb : j < (l.getD b default).length) {z : Int} (h : inV l (eqM M a b j) z) : inV l M z := by
  obtain ⟨i, r, hi, hr, he⟩ := h
  unfold eqM at he
  split at he
  · rcases lo_or (M a j) (M b j) with h | h
    · exact ⟨a, j, ha, hja, by rw [← he, h]⟩
    · exact ⟨b, j, hb, hjb, by rw [← he, h]⟩
  · exact ⟨i, r, hi, hr, he⟩
include ha hb in
theorem eqMs_V : ∀ {js : List Nat} {M : Nat → Nat → Int}, (∀ j, j ∈ js → j < (l.getD a default).length ∧ j < (l.getD b default).length) → ∀ {z : Int}, inV l (eqMs M a b js) z → inV l M z
  | [], _, _, _, h => h
  | j :: js, M, hj, z, h => eqM_V ha hb (hj j (by simp)).1 (hj j (by simp)).2 (eqMs_V (js := js) (M := eqM M a b j) (fun k hk => hj k (by simp [hk])) h)
include ha hb in
theorem eqMs_lose : ∀ {js : List Nat} {M : Nat → Nat → Int}, (∀ j, j ∈ js → j < (l.getD a default).length ∧ j < (l.getD b default).length) → (∃ j, j ∈ js ∧ ¬ M a j = M b j) → ∃ z, inV l M z ∧ ¬ inV l (eqMs M a b js) z
  | [], _, _, ⟨_, h, _⟩ => by simp at h
  | j :: js, M, hj, ⟨k, hk, hne⟩ => by
    by_cases e : M a j = M b j
    · have e2 : eqMs M a b (j :: js) = eqMs M a b js := by
        show eqMs (eqM M a b j) a b js = _
        rw [eqM_same e]
      rw [e2]
      refine eqMs_lose (fun k hk => hj k (by simp [hk])) ⟨k, ?_, hne⟩
      rcases List.mem_cons.1 hk with h | h
      · subst h; exact absurd e hne
      · exact h
    · refine ⟨hiI (M a j) (M b j), ?_, fun h => ?_⟩
      · rcases hi_or (M a j) (M b j) with h | h
        · exact ⟨a, j, ha, (hj j (by simp)).1, h.symm⟩
        · exact ⟨b, j, hb, (hj j (by simp)).2, h.symm⟩
      · obtain ⟨i, r, hi, hr, he⟩ := eqMs_V ha hb (fun k hk => hj k (by simp [hk])) (show inV l (eqMs (eqM M a b j) a b js) _ from h)
        unfold eqM at he
        split at he
        · unfold hiI loI at he
          split at he <;> split at he <;> omega
        · rename_i h2
          exact h2 he
end
def symC (Z : List Int) (l : List Rw) : Nat := Z.countP fun z => l.any fun r => decide (z ∈ r)
def muC (Z : List Int) (l : List Rw) : Nat := symC Z l * 300 + (300 - l.length)
def Cov (Z : List Int) (l : List Rw) : Prop := ∀ r, r ∈ l → ∀ z, z ∈ r → z ∈ Z
theorem any_sym {l : List Rw} {z : Int} : (l.any fun r => decide (z ∈ r)) = true ↔ ∃ r, r ∈ l ∧ z ∈ r := by
  rw [List.any_eq_true]
  exact ⟨fun ⟨r, h, h2⟩ => ⟨r, h, of_decide_eq_true h2⟩, fun ⟨r, h, h2⟩ => ⟨r, h, decide_eq_true h2⟩⟩
theorem countP_lt' {p q : Int → Bool} : ∀ {Z : List Int}, (∀ z, p z = true → q z = true) → (∃ z, z ∈ Z ∧ q z = true ∧ p z = false) → Z.countP p < Z.countP q
  | [], _, ⟨_, h, _⟩ => by simp at h
  | x :: Z, h, ⟨z, hz, hq, hp⟩ => by
    have hm : Z.countP p ≤ Z.countP q := List.countP_mono_left fun z _ => h z
    rw [List.countP_cons, List.countP_cons]
    rcases List.mem_cons.1 hz with rfl | hz
    · rw [hq, hp]
      simp only [if_true, Bool.false_eq_true, if_false]
      omega
    · have := countP_lt' (Z := Z) h ⟨z, hz, hq, hp⟩
      by_cases e : p x = true
      · rw [e, h x e]; omega
      · rw [if_neg e]; omega
theorem symC_lt {Z : List Int} {l l' : List Rw} (h : ∀ z, (∃ r, r ∈ l' ∧ z ∈ r) → ∃ r, r ∈ l ∧ z ∈ r) (h2 : ∃ z, z ∈ Z ∧ (∃ r, r ∈ l ∧ z ∈ r) ∧ ¬ ∃ r, r ∈ l' ∧ z ∈ r) : symC Z l' < symC Z l := by
  refine countP_lt' (fun z hz => any_sym.2 (h z (any_sym.1 hz))) ?_
  obtain ⟨z, h3, h4, h5⟩ := h2
  exact ⟨z, h3, any_sym.2 h4, by rw [Bool.eq_false_iff]; exact fun e => h5 (any_sym.1 e)⟩
theorem symC_le {Z : List Int} {l l' : List Rw} (h : ∀ z, (∃ r, r ∈ l' ∧ z ∈ r) → ∃ r, r ∈ l ∧ z ∈ r) : symC Z l' ≤ symC Z l :=
  List.countP_mono_left fun z _ hz => any_sym.2 (h z (any_sym.1 hz))
end Go.Hx
end
section
namespace Go.Hx
theorem insZ_new {r : Rw} : ∀ {l : List Rw}, r ∉ l → (insZ r l).length = l.length + 1
  | [], _ => rfl
  | y :: l, h => by
    unfold insZ
    have h1 : ¬ r = y := fun e => h (by rw [e]; simp)
    have h2 := insZ_new (l := l) (r := r) fun e => h (by simp [e])
    rw [if_neg h1]
    split
    · simp
    · simp only [List.length_cons]; omega
theorem canon_app {l : List Rw} {r : Rw} (ho : OrdZ l) : canon (l ++ [r]) = insZ r l := by
  have e : l = canon l := canon_eq ho fun _ => Iff.rfl
  have : canon (l ++ [r]) = insZ r (canon l) := by
    unfold canon
    rw [List.foldl_append]
    rfl
  rw [this, ← e]
section
variable {n : Int} {l : List Rw} {a b : Nat} {x : Fd}
abbrev fdL (l : List Rw) (a b : Nat) (x : Fd) : List Rw := canon (rowsOf l (eqMs (matOf l) a b (membs x.rhs)))
theorem fd_ok (hT : tok n l = true) (hu : inU n x = true) (ha : a < l.length) (hb : b < l.length) (hs : stepF l x a b = true) :
    fdE n l a b x = (n, fdL l a b x, 0) ∧ tok n (fdL l a b x) = true ∧ (∀ z, (∃ r, r ∈ fdL l a b x ∧ z ∈ r) → ∃ r, r ∈ l ∧ z ∈ r) ∧ ∀ Z, Cov Z l → muC Z (fdL l a b x) < muC Z l := by
  obtain ⟨h0, h1, h2, h3⟩ := tok_get hT
  have hw := tok_wel hT
  unfold stepF at hs
  rw [Bool.and_eq_true, Bool.not_eq_true'] at hs
  obtain ⟨hl, hr⟩ := hs
  have hj : ∀ j, j ∈ membs x.rhs → j < (l.getD a default).length ∧ j < (l.getD b default).length := fun j hj => by
    have := memb_in h0 h1 hu hj
    exact ⟨by rw [h3 a ha]; exact this, by rw [h3 b hb]; exact this⟩
  have hV : ∀ z, (∃ r, r ∈ fdL l a b x ∧ z ∈ r) → ∃ r, r ∈ l ∧ z ∈ r := fun z ⟨r, hr, hz⟩ => inV_mat.1 (eqMs_V ha hb hj (inV_rows.1 ⟨r, mem_canon.1 hr, hz⟩))
  have hlen : (fdL l a b x).length ≤ l.length := Nat.le_trans (canon_len _) (Nat.le_of_eq (rowsOf_len _ _))
  refine ⟨if_pos hl, tok_canon h0 h1 (Nat.le_trans hlen h2) (fun r hr => ⟨?_, fun z hz => ?_⟩), hV, fun Z hZ => ?_⟩
  · unfold rowsOf at hr
    rw [List.mem_map] at hr
    obtain ⟨i, hi, rfl⟩ := hr
    rw [List.length_map, List.length_range]
    exact h3 i (List.mem_range.1 hi)
  · obtain ⟨r2, h5, h6⟩ := hV z ⟨r, mem_canon.2 hr, hz⟩
    exact (hw r2 h5).2 z h6
  · have hne : ∃ j, j ∈ membs x.rhs ∧ ¬ matOf l a j = matOf l b j := by
      apply Classical.byContradiction
      intro hno
      rw [agrZ_t] at hr
      · cases hr
      · intro i hi hh
        apply Classical.byContradiction
        intro e
        have hi2 : i < 32 := by
          have := h3 a ha
          omega
        rw [hasI_nat hi2] at hh
        exact hno ⟨i, mem_membs.2 ⟨hi2, hh⟩, e⟩
    obtain ⟨z, hz1, hz2⟩ := eqMs_lose ha hb hj hne
    have hz3 := inV_mat.1 hz1
    have := symC_lt (Z := Z) hV ⟨z, by obtain ⟨r, h7, h8⟩ := hz3; exact hZ r h7 z h8, hz3, fun ⟨r, h7, h8⟩ => hz2 (inV_rows.1 ⟨r, mem_canon.1 h7, h8⟩)⟩
    unfold muC
    omega
abbrev mvL (l : List Rw) (a b : Nat) (x : Fd) : List Rw := canon (l ++ [mixZ (l.getD a default) (l.getD b default) (x.lhs ||| x.rhs)])
theorem mv_ok (hT : tok n l = true) (ha : a < l.length) (hb : b < l.length) (hs : stepM l x a b = true) :
    mvE n l a b x = (0, [], 3) ∨ (mvE n l a b x = (n, mvL l a b x, 0) ∧ tok n (mvL l a b x) = true ∧ (∀ z, (∃ r, r ∈ mvL l a b x ∧ z ∈ r) → ∃ r, r ∈ l ∧ z ∈ r) ∧ ∀ Z, Cov Z l → muC Z (mvL l a b x) < muC Z l) := by
  obtain ⟨h0, h1, h2, h3⟩ := tok_get hT
  have hw := tok_wel hT
  unfold stepM at hs
  rw [Bool.and_eq_true, Bool.not_eq_true'] at hs
  obtain ⟨hl, hr⟩ := hs
  have hno := any_out hr
  have hE : mvE n l a b x = addE n l (mixZ (l.getD a default) (l.getD b default) (x.lhs ||| x.rhs)) := if_pos hl
  by_cases hbig : 256 < (mvL l a b x).length
  · left
    rw [hE]
    exact if_pos hbig
  · right
    have hmem : ∀ z, z ∈ mixZ (l.getD a default) (l.getD b default) (x.lhs ||| x.rhs) → z ∈ l.getD a default ∨ z ∈ l.getD b default := fun z hz => by
      unfold mixZ at hz
      rw [List.mem_map] at hz
      obtain ⟨i, hi, rfl⟩ := hz
      have hi := List.mem_range.1 hi
      have hi2 : i < (l.getD a default).length := by rw [h3 a ha, ← h3 b hb]; exact hi
      split
      · left
        rw [List.getD_eq_getElem?_getD (l := l.getD a default), List.getElem?_eq_getElem hi2]
        exact List.getElem_mem hi2
      · right
        rw [List.getD_eq_getElem?_getD (l := l.getD b default), List.getElem?_eq_getElem hi]
        exact List.getElem_mem hi
    have hV : ∀ z, (∃ r, r ∈ mvL l a b x ∧ z ∈ r) → ∃ r, r ∈ l ∧ z ∈ r := fun z ⟨r, hr, hz⟩ => by
      rcases List.mem_append.1 (mem_canon.1 hr) with h | h
      · exact ⟨r, h, hz⟩
      · rw [List.mem_singleton] at h
        subst h
        rcases hmem z hz with h | h
        · exact ⟨_, getZ_in ha, h⟩
        · exact ⟨_, getZ_in hb, h⟩
    refine ⟨by rw [hE]; exact if_neg hbig, tok_canon h0 h1 (Nat.le_of_not_lt fun e => hbig e) (fun r hr => ⟨?_, fun z hz => ?_⟩), hV, fun Z hZ => ?_⟩
    · rcases List.mem_append.1 hr with h | h
      · exact (hw r h).1
      · rw [List.mem_singleton] at h
        subst h
        rw [mixZ_len]
        exact h3 b hb
    · obtain ⟨r2, h5, h6⟩ := hV z ⟨r, mem_canon.2 hr, hz⟩
      exact (hw r2 h5).2 z h6
    · have e : (mvL l a b x).length = l.length + 1 := by
        show (canon _).length = _
        rw [canon_app (tok_ord hT), insZ_new hno]
      have := symC_le (Z := Z) hV
      unfold muC
      omega
end
theorem fs_get {α : Type} {f : Nat → Option α} : ∀ {n : Nat} {x : α}, (List.range n).findSome? f = some x → ∃ k, k < n ∧ f k = some x := fun {n x} h => by
  obtain ⟨k, hk, e⟩ := List.exists_of_findSome?_eq_some h
  exact ⟨k, List.mem_range.1 hk, e⟩
theorem firstF_get {P : Nat → Nat → Nat → Bool} {I L i a b : Nat} (h : firstF P I L = some (i, a, b)) : i < I ∧ a < L ∧ b < L ∧ P i a b = true := by
  obtain ⟨i', hi, h⟩ := fs_get h
  obtain ⟨a', ha, h⟩ := fs_get h
  rw [Option.map_eq_some_iff] at h
  obtain ⟨b', hb, e⟩ := h
  simp only [Prod.mk.injEq] at e
  obtain ⟨rfl, rfl, rfl⟩ := e
  exact ⟨hi, ha, List.mem_range.1 (List.mem_of_find?_eq_some hb), by simpa using List.find?_some hb⟩
def okSt (l : List Rw) (p m : List Fd) (s : St) : Prop := s.2.2.1 < l.length ∧ s.2.2.2 < l.length ∧ ((s.1 = false ∧ s.2.1 < p.length ∧ stepF l (p.getD s.2.1 default) s.2.2.1 s.2.2.2 = true) ∨ (s.1 = true ∧ s.2.1 < m.length ∧ stepM l (m.getD s.2.1 default) s.2.2.1 s.2.2.2 = true))
theorem next_ok {l : List Rw} {p m : List Fd} {s : St} (h : nextE l p m = some s) : okSt l p m s := by
  unfold nextE at h
  split at h
  · rename_i x e
    simp only [Option.some.injEq] at h
    subst h
    obtain ⟨i, a, b⟩ := x
    obtain ⟨h1, h2, h3, h4⟩ := firstF_get e
    exact ⟨h2, h3, .inl ⟨rfl, h1, h4⟩⟩
  · rw [Option.map_eq_some_iff] at h
    obtain ⟨⟨i, a, b⟩, e, rfl⟩ := h
    obtain ⟨h1, h2, h3, h4⟩ := firstF_get e
    exact ⟨h2, h3, .inr ⟨rfl, h1, h4⟩⟩
def appE (n : Int) (l : List Rw) (p m : List Fd) (s : St) : Int × List Rw × Int := if s.1 = true then mvE n l s.2.2.1 s.2.2.2 (m.getD s.2.1 default) else fdE n l s.2.2.1 s.2.2.2 (p.getD s.2.1 default)
theorem app_ok {n : Int} {l : List Rw} {p m : List Fd} {s : St} (hT : tok n l = true) (hp : p.all (inU n) = true) (h : okSt l p m s) :
    appE n l p m s = (0, [], 3) ∨ ∃ l', appE n l p m s = (n, l', 0) ∧ tok n l' = true ∧ (∀ Z, Cov Z l → Cov Z l' ∧ muC Z l' < muC Z l) := by
  obtain ⟨ha, hb, h | h⟩ := h
  · obtain ⟨h1, h2, h3⟩ := h
    have hu : inU n (p.getD s.2.1 default) = true := List.all_eq_true.1 hp _ (by rw [List.getD_eq_getElem?_getD, List.getElem?_eq_getElem h2]; exact List.getElem_mem h2)
    obtain ⟨e, h4, h5, h6⟩ := fd_ok hT hu ha hb h3
    exact .inr ⟨_, by unfold appE; rw [if_neg (by rw [h1]; decide)]; exact e, h4, fun Z hZ => ⟨fun r hr z hz => by obtain ⟨r2, h7, h8⟩ := h5 z ⟨r, hr, hz⟩; exact hZ r2 h7 z h8, h6 Z hZ⟩⟩
  · obtain ⟨h1, h2, h3⟩ := h
    rcases mv_ok hT ha hb h3 with e | ⟨e, h4, h5, h6⟩
    · exact .inl (by unfold appE; rw [if_pos h1]; exact e)
    · exact .inr ⟨_, by unfold appE; rw [if_pos h1]; exact e, h4, fun Z hZ => ⟨fun r hr z hz => by obtain ⟨r2, h7, h8⟩ := h5 z ⟨r, hr, hz⟩; exact hZ r2 h7 z h8, h6 Z hZ⟩⟩
def stepsE : Nat → Int → List Rw → List Fd → List Fd → List St → List St × (Int × List Rw) × Int
  | 0, _, _, _, _, _ => ([], (0, []), 0)
  | f + 1, n, l, p, m, acc =>
    match nextE l p m with
    | none => (acc, (n, l), 0)
    | some s => match appE n l p m s with
      | (n', l', e) => if e = 0 then stepsE f n' l' p m (acc ++ [s]) else ([], (0, []), e)
theorem stepsE_end {f : Nat} {n : Int} {l : List Rw} {p m : List Fd} {acc : List St} (hf : 0 < f) (h : nextE l p m = none) : stepsE f n l p m acc = (acc, (n, l), 0) := by
  obtain ⟨g, rfl⟩ : ∃ g, f = g + 1 := ⟨f - 1, by omega⟩
  unfold stepsE
  rw [h]
theorem stepsE_err {f : Nat} {n : Int} {l : List Rw} {p m : List Fd} {acc : List St} {s : St} (hf : 0 < f) (h : nextE l p m = some s) {n' e : Int} {l' : List Rw} (h2 : appE n l p m s = (n', l', e)) (he : ¬ e = 0) : stepsE f n l p m acc = ([], (0, []), e) := by
  obtain ⟨g, rfl⟩ : ∃ g, f = g + 1 := ⟨f - 1, by omega⟩
  unfold stepsE
  rw [h]
  simp only
  rw [h2]
  simp only
  rw [if_neg he]
theorem stepsE_next {f : Nat} {n : Int} {l : List Rw} {p m : List Fd} {acc : List St} {s : St} (hf : 0 < f) (h : nextE l p m = some s) {n' : Int} {l' : List Rw} (h2 : appE n l p m s = (n', l', 0)) : stepsE f n l p m acc = stepsE (f - 1) n' l' p m (acc ++ [s]) := by
  obtain ⟨g, rfl⟩ : ∃ g, f = g + 1 := ⟨f - 1, by omega⟩
  rw [Nat.add_sub_cancel]
  conv => lhs; unfold stepsE
  rw [h]
  simp only
  rw [h2]
  simp only
  rw [if_pos trivial]
end Go.Hx
end
section
namespace Go.Hx
open Go.Proofs
theorem cApply (n : Int) (l : List Rw) (p m : List Fd) (s : St) (hT : tok n l = true) (hp : p.all (inU n) = true) (h : okSt l p m s) :
    HPure Tryd.prog 50 [pT n l, pP (fdl p), pP (fdl m), s.pc] (prOf [pT (appE n l p m s).1 (appE n l p m s).2.1, pI (appE n l p m s).2.2]) := by
  obtain ⟨mu, i, a, b⟩ := s
  obtain ⟨ha, hb, h | h⟩ := h
  · obtain ⟨h1, h2, h3⟩ := h
    cases h1
    exact cApplyF n l p m i a b hT ha hb h2 (List.all_eq_true.1 hp _ (by rw [List.getD_eq_getElem?_getD, List.getElem?_eq_getElem h2]; exact List.getElem_mem h2))
  · obtain ⟨h1, h2, h3⟩ := h
    cases h1
    exact cApplyM n l p m i a b hT ha hb h2
abbrev St.c (s : St) : Nat → PV := fun j => [.raw (.bool s.1), .raw (.int .i64 (s.2.1 : Int)), .raw (.int .i64 (s.2.2.1 : Int)), .raw (.int .i64 (s.2.2.2 : Int))].getD j .any
abbrev stl (l : List St) : PV := psl 4 St.c l
abbrev ckE (n : Int) (l : List Rw) (p m : List Fd) : Int := if tok n l = true then bErr n p m else 1
theorem ckE_ok {n : Int} {l : List Rw} {p m : List Fd} (h : ckE n l p m = 0) : tok n l = true ∧ bErr n p m = 0 ∧ p.all (inU n) = true := by
  unfold ckE at h
  by_cases e : tok n l = true
  · rw [if_pos e] at h
    exact ⟨e, h, (bErr_ok h).2.2.2.1⟩
  · rw [if_neg e] at h; omega
def chaseE (F : Nat) (n : Int) (l : List Rw) (p m : List Fd) : List St × (Int × List Rw) × Int := if ckE n l p m = 0 then stepsE F n l p m [] else ([], (0, []), ckE n l p m)
theorem chaseE_0 {F : Nat} {n : Int} {l : List Rw} {p m : List Fd} (h : ¬ ckE n l p m = 0) : chaseE F n l p m = ([], (0, []), ckE n l p m) := if_neg h
theorem chaseE_1 {F : Nat} {n : Int} {l : List Rw} {p m : List Fd} (h : ckE n l p m = 0) : chaseE F n l p m = stepsE F n l p m [] := if_pos h
theorem none_of {α : Type} {o : Option α} (h : o.isSome = false) : o = none := by cases o <;> simp_all
theorem some_of {α : Type} {o : Option α} (d : α) (h : o.isSome = true) : o = some (o.getD d) := by cases o <;> simp_all
theorem cov_self (l : List Rw) : Cov l.flatten l := fun r hr z hz => List.mem_flatten.2 ⟨r, hr, hz⟩
structure StI (F : Nat) (n : Int) (l : List Rw) (p m : List Fd) (x : Nat × List Rw × List St) : Prop where
  t : tok n x.2.1 = true
  c : Cov l.flatten x.2.1
  u : muC l.flatten x.2.1 < x.1
  b : x.2.2.length + x.1 ≤ F
  e : stepsE x.1 n x.2.1 p m x.2.2 = stepsE F n l p m []
theorem StI.start {F : Nat} {n : Int} {l : List Rw} {p m : List Fd} (hT : tok n l = true) (hF : muC l.flatten l < F) : StI F n l p m (F, l, []) := ⟨hT, cov_self l, hF, by simp, rfl⟩
theorem StI.next {F : Nat} {n : Int} {l : List Rw} {p m : List Fd} {x : Nat × List Rw × List St} {s : St} (h : StI F n l p m x) (hp : p.all (inU n) = true) (hS : nextE x.2.1 p m = some s) (he : (appE n x.2.1 p m s).2.2 = 0) :
    (appE n x.2.1 p m s).1 = n ∧ StI F n l p m (x.1 - 1, (appE n x.2.1 p m s).2.1, x.2.2 ++ [s]) := by
  have hu := h.u
  have hb := h.b
  rcases app_ok h.t hp (next_ok hS) with e | ⟨l', e, h1, h2⟩
  · rw [e] at he; exact absurd he (by decide)
  · have hq := h2 _ h.c
    refine ⟨by rw [e], ?_⟩
    rw [e]
    exact ⟨h1, hq.1, by show muC _ l' < _; omega, by simp only [List.length_append, List.length_singleton]; omega, by rw [← h.e, stepsE_next (by omega) hS e]⟩
theorem StI.fin {F : Nat} {n : Int} {l : List Rw} {p m : List Fd} {x : Nat × List Rw × List St} (h : StI F n l p m x) (hS : nextE x.2.1 p m = none) : stepsE F n l p m [] = (x.2.2, (n, x.2.1), 0) := by
  have hu := h.u
  rw [← h.e, stepsE_end (by omega) hS]
theorem StI.err {F : Nat} {n : Int} {l : List Rw} {p m : List Fd} {x : Nat × List Rw × List St} {s : St} (h : StI F n l p m x) (hS : nextE x.2.1 p m = some s) (he : ¬ (appE n x.2.1 p m s).2.2 = 0) : stepsE F n l p m [] = ([], (0, []), (appE n x.2.1 p m s).2.2) := by
  have hu := h.u
  rw [← h.e]
  exact stepsE_err (by omega) hS rfl he
end Go.Hx
end
