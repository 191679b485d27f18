/- A part of the proof: lemmas for the theorem of this claim, merged by a program of ours out of V1, Cs4, V2, Cl1. -/
import Derived.Test.YtgeliioenkmfhaaDoorT15
set_option linter.all false
section
namespace Go.Hx
open Go.Proofs
set_option maxRecDepth 100000
theorem good33 : goodFn Tryd.prog 33 := ⟨Tryd.f33, Tryd.func33, by kernel_rfl, by kernel_rfl⟩
theorem cRSub (a b : AS) : HPure Tryd.prog 33 [pA a, pA b] (prOf [pB (decide (sub a b))]) := by
  refine hpure_of (nt := 10) Trydok Tryd.func33 rfl rfl (Nat.le_of_ble_eq_true rfl) ?_; refine hw_seq ?_; refine hw_region (E := TrydE) Trydok ?_; refine rq rfl rfl rfl rfl rfl ?_; refine rg_nil ?_; show HW _ _ _ _ _
  refine hw_seq ?_; refine hw_region (E := TrydE) Trydok ?_; (iterate 6 refine rq rfl rfl rfl rfl rfl ?_); refine rg_nil ?_; show HW _ _ _ _ _; refine hw_ret ?_; refine ⟨.inr rfl, ?_⟩
  exact ⟨_, _, _, _, rfl, (by (repeat' apply And.intro) <;> first | trivial | exact Nat.le_of_ble_eq_true rfl | rfl), rfl, (by (repeat' apply And.intro) <;> first | trivial | exact Nat.le_of_ble_eq_true rfl | rfl), ⟨ccb (decide_eq_decide.2 (by rw [bAnd, asI_inj]; exact sub_and.symm)), trivial⟩⟩
theorem good46 : goodFn Tryd.prog 46 := ⟨Tryd.f46, Tryd.func46, by kernel_rfl, by kernel_rfl⟩
theorem cClose (l : List Fd) (s0 : AS) : HPure Tryd.prog 46 [pP (fdl l), pA s0] (prOf [pA (clo l s0)]) := by
  refine hpure_of (nt := 29) Trydok Tryd.func46 rfl rfl (Nat.le_of_ble_eq_true rfl) ?_; refine hw_seq ?_
  refine hw_bt 0 rfl fun hlen => ?_
  refine hw_region (E := TrydE) Trydok ?_; refine rq rfl rfl rfl rfl rfl ?_; refine rg_nil ?_; show HW _ _ _ _ _; refine hw_block ?_
  refine hw_loopK (ι := AS) ⟨[(0, some _)], []⟩ ⟨⟨⟨_, rfl, CoR.refl _⟩, trivial⟩, trivial⟩ (fun s => ⟨[(1, some (vA s))], []⟩) (fun s => clo l s = clo l s0) (fun s => 4294967296 - s.toNat) (s0) (rfl) ⟨⟨⟨_, rfl, (by first | exact CoR.refl _ | exact coi (by omega) | exact cob (by simp_all))⟩, trivial⟩, trivial⟩ ?_
  rintro s hs
  refine hw_block ?_; refine hw_seq ?_; refine hw_region (E := TrydE) Trydok ?_; (iterate 2 refine rq rfl rfl rfl rfl rfl ?_); refine rg_nil ?_; show HW _ _ _ _ _; (iterate 2 refine hw_seq ?_)
  refine hw_region (E := TrydE) Trydok ?_; (iterate 3 refine rq rfl rfl rfl rfl rfl ?_); refine rg_nil ?_; show HW _ _ _ _ _; refine hw_block ?_
  refine hw_loopK (ι := Nat) ⟨[(0, some _), (5, some _), (9, some _), (10, some _)], []⟩ ⟨⟨⟨_, rfl, CoR.refl _⟩, ⟨_, rfl, CoR.refl _⟩, ⟨_, rfl, CoR.refl _⟩, ⟨_, rfl, CoR.refl _⟩, trivial⟩, trivial⟩ (fun i => ⟨[(11, some (vI i)), (1, some (vA (clStep (l.take i) s)))], []⟩) (fun i => i ≤ l.length) (fun i => l.length - i) (0) (Nat.zero_le _) ⟨⟨⟨_, rfl, (by first | exact CoR.refl _ | exact coi (by omega) | exact cob (by simp_all))⟩, ⟨_, rfl, (by first | exact CoR.refl _ | exact coi (by omega) | exact cob (by simp_all))⟩, trivial⟩, trivial⟩ ?_
  rintro i hi
  refine hw_seq ?_; refine hw_region (E := TrydE) Trydok ?_; refine rq rfl rfl rfl rfl rfl ?_; refine rg_nil ?_; show HW _ _ _ _ _; refine hw_seq ?_; refine hw_cond _ rfl (fun r0 => ?_) (fun r0 => ?_)
  · skip
    have h0 := r0
    have h0 := of_decide_eq_true h0
    try simp only [Int.toNat_natCast] at h0
    refine hw_skip ?_; show HW _ _ _ _ _; refine hw_seq ?_; refine hw_block ?_; refine hw_seq ?_; refine hw_region (E := TrydE) Trydok ?_; (iterate 2 refine rq rfl rfl rfl rfl rfl ?_); refine rm 0 rfl rfl rfl rfl rfl rfl ?_
    refine rs rfl rfl rfl rfl rfl ?_; refine rg_nil ?_; show HW _ _ _ _ _; refine hw_seq ?_; refine hw_region (E := TrydE) Trydok ?_; (iterate 5 refine rq rfl rfl rfl rfl rfl ?_); refine rg_nil ?_; show HW _ _ _ _ _
    refine hw_cond _ rfl (fun r1 => ?_) (fun r1 => ?_)
    · skip
      have h1 := r1
      have h1 := of_decide_eq_true h1
      try simp only [Int.toNat_natCast] at h1
      refine hw_region (E := TrydE) Trydok ?_; (iterate 5 refine rq rfl rfl rfl rfl rfl ?_); refine rg_nil ?_; show HW _ _ _ _ _; refine hw_region (E := TrydE) Trydok ?_; (iterate 2 refine rq rfl rfl rfl rfl rfl ?_)
      refine rg_nil ?_; refine ⟨i + 1, ?_, ?_, ?_⟩
      · show i + 1 ≤ _; omega
      · first | omega | (dsimp only; omega)
      · exact ⟨⟨⟨_, rfl, (by first | exact CoR.refl _ | exact coi (by omega) | exact cob (by simp_all))⟩, ⟨_, rfl, (by rw [clTake (by omega)]; first | (rw [cl_f (by assumption)]; exact CoR.refl _) | (simp only [Int.toNat_natCast]; rw [cl_t (by assumption)]; exact CoR.refl _))⟩, ⟨_, rfl, CoR.refl _⟩, ⟨_, rfl, CoR.refl _⟩, ⟨_, rfl, CoR.refl _⟩, ⟨_, rfl, CoR.refl _⟩, trivial⟩, trivial⟩
    · skip
      have h1 := r1
      have h1 := of_decide_eq_false h1
      try simp only [Int.toNat_natCast] at h1
      refine hw_skip ?_; show HW _ _ _ _ _; refine hw_region (E := TrydE) Trydok ?_; (iterate 2 refine rq rfl rfl rfl rfl rfl ?_); refine rg_nil ?_; refine ⟨i + 1, ?_, ?_, ?_⟩
      · show i + 1 ≤ _; omega
      · first | omega | (dsimp only; omega)
      · exact ⟨⟨⟨_, rfl, (by first | exact CoR.refl _ | exact coi (by omega) | exact cob (by simp_all))⟩, ⟨_, rfl, (by rw [clTake (by omega)]; first | (rw [cl_f (by assumption)]; exact CoR.refl _) | (simp only [Int.toNat_natCast]; rw [cl_t (by assumption)]; exact CoR.refl _))⟩, ⟨_, rfl, CoR.refl _⟩, ⟨_, rfl, CoR.refl _⟩, ⟨_, rfl, CoR.refl _⟩, ⟨_, rfl, CoR.refl _⟩, trivial⟩, trivial⟩
  · skip
    have h0 := r0
    have h0 := of_decide_eq_false h0
    try simp only [Int.toNat_natCast] at h0
    obtain rfl : i = l.length := by omega
    refine hw_exit ?_; show HW _ _ _ _ _; refine hw_seq ?_; refine hw_region (E := TrydE) Trydok ?_; (iterate 3 refine rq rfl rfl rfl rfl rfl ?_); refine rg_nil ?_; show HW _ _ _ _ _
    refine hw_cond _ rfl (fun r2 => ?_) (fun r2 => ?_)
    · skip
      have h2 := r2
      have h2 := of_decide_eq_true h2
      try simp only [Int.toNat_natCast] at h2
      refine hw_seq ?_; refine hw_region (E := TrydE) Trydok ?_; (iterate 2 refine rq rfl rfl rfl rfl rfl ?_); refine rg_nil ?_; show HW _ _ _ _ _; refine hw_ret ?_; refine ⟨.inr rfl, ?_⟩
      have e2 : clStep l s = s := by
        have := asI_inj.1 (by assumption)
        rwa [List.take_length] at this
      exact ⟨_, _, _, _, rfl, (by (repeat' apply And.intro) <;> first | trivial | exact Nat.le_of_ble_eq_true rfl | rfl), rfl, (by (repeat' apply And.intro) <;> first | trivial | exact Nat.le_of_ble_eq_true rfl | rfl), ⟨cci (by rw [List.take_length, e2, ← hs, clo_fix e2]), trivial⟩⟩
    · skip
      have h2 := r2
      have h2 := of_decide_eq_false h2
      try simp only [Int.toNat_natCast] at h2
      refine hw_skip ?_; refine ⟨clStep l s, ?_, ?_, ?_⟩
      · show clo l (clStep l s) = clo l s0
        rw [clo_step]; exact hs
      · have hne : ¬ clStep l s = s := fun e => absurd (congrArg asI e) (by rw [List.take_length] at *; assumption)
        have := sub_lt (clStep_ge (l := l) (s := s)) (fun e => hne e.symm)
        have := (clStep l s).isLt
        show 4294967296 - (clStep l s).toNat < 4294967296 - s.toNat
        omega
      · exact ⟨⟨⟨_, rfl, (by rw [List.take_length]; exact CoR.refl _)⟩, ⟨_, rfl, CoR.refl _⟩, trivial⟩, trivial⟩
theorem good49 : goodFn Tryd.prog 49 := ⟨Tryd.f49, Tryd.func49, by kernel_rfl, by kernel_rfl⟩
theorem cRClose (l : List Fd) (s0 : AS) : HPure Tryd.prog 49 [pP (fdl l), pA s0] (prOf [pA (clo l s0)]) := by
  refine hpure_of (nt := 32) Trydok Tryd.func49 rfl rfl (Nat.le_of_ble_eq_true rfl) ?_; refine hw_seq ?_
  refine hw_bt 0 rfl fun hlen => ?_
  refine hw_region (E := TrydE) Trydok ?_; refine rq rfl rfl rfl rfl rfl ?_; refine rg_nil ?_; show HW _ _ _ _ _; refine hw_block ?_
  refine hw_loopK (ι := AS) ⟨[(0, some _)], []⟩ ⟨⟨⟨_, rfl, CoR.refl _⟩, trivial⟩, trivial⟩ (fun s => ⟨[(1, some (vA s))], []⟩) (fun s => clo l s = clo l s0) (fun s => 4294967296 - s.toNat) (s0) (rfl) ⟨⟨⟨_, rfl, (by first | exact CoR.refl _ | exact coi (by omega) | exact cob (by simp_all))⟩, trivial⟩, trivial⟩ ?_
  rintro s hs
  refine hw_block ?_; refine hw_seq ?_; refine hw_region (E := TrydE) Trydok ?_; (iterate 2 refine rq rfl rfl rfl rfl rfl ?_); refine rg_nil ?_; show HW _ _ _ _ _; (iterate 2 refine hw_seq ?_)
  refine hw_region (E := TrydE) Trydok ?_; refine rq rfl rfl rfl rfl rfl ?_; refine rg_nil ?_; show HW _ _ _ _ _; refine hw_block ?_
  refine hw_loopK (ι := Nat) ⟨[(0, some _), (5, some _)], []⟩ ⟨⟨⟨_, rfl, CoR.refl _⟩, ⟨_, rfl, CoR.refl _⟩, trivial⟩, trivial⟩ (fun i => ⟨[(6, some (vI i)), (1, some (vA (clStep (l.take i) s)))], []⟩) (fun i => i ≤ l.length) (fun i => l.length - i) (0) (Nat.zero_le _) ⟨⟨⟨_, rfl, (by first | exact CoR.refl _ | exact coi (by omega) | exact cob (by simp_all))⟩, ⟨_, rfl, (by first | exact CoR.refl _ | exact coi (by omega) | exact cob (by simp_all))⟩, trivial⟩, trivial⟩ ?_
  rintro i hi
  (iterate 2 refine hw_seq ?_); refine hw_region (E := TrydE) Trydok ?_; (iterate 4 refine rq rfl rfl rfl rfl rfl ?_); refine rg_nil ?_; show HW _ _ _ _ _; refine hw_cond _ rfl (fun r0 => ?_) (fun r0 => ?_)
  · skip
    have h0 := r0
    have h0 := of_decide_eq_true h0
    try simp only [Int.toNat_natCast] at h0
    refine hw_skip ?_; show HW _ _ _ _ _; refine hw_seq ?_; refine hw_block ?_; refine hw_seq ?_; refine hw_region (E := TrydE) Trydok ?_; (iterate 6 refine rq rfl rfl rfl rfl rfl ?_)
    refine rc rfl rfl rfl rfl rfl rfl good33 (cRSub (l.getD i default).lhs (clStep (l.take i) s)) (CoL.refl _) rfl rfl ?_; refine rg_nil ?_; show HW _ _ _ _ _; refine hw_cond _ rfl (fun r1 => ?_) (fun r1 => ?_)
    · skip
      have h1 := r1
      refine hw_region (E := TrydE) Trydok ?_; (iterate 8 refine rq rfl rfl rfl rfl rfl ?_); refine rg_nil ?_; show HW _ _ _ _ _; refine hw_region (E := TrydE) Trydok ?_; (iterate 3 refine rq rfl rfl rfl rfl rfl ?_)
      refine rg_nil ?_; refine ⟨i + 1, ?_, ?_, ?_⟩
      · show i + 1 ≤ _; omega
      · first | omega | (dsimp only; omega)
      · exact ⟨⟨⟨_, rfl, (by first | exact CoR.refl _ | exact coi (by omega) | exact cob (by simp_all))⟩, ⟨_, rfl, (by rw [clTake (by omega)]; first | (rw [cl_f' (by assumption)]; exact CoR.refl _) | (simp only [Int.toNat_natCast]; rw [cl_t' (by assumption)]; exact CoR.refl _))⟩, ⟨_, rfl, CoR.refl _⟩, ⟨_, rfl, CoR.refl _⟩, trivial⟩, trivial⟩
    · skip
      have h1 := r1
      refine hw_skip ?_; show HW _ _ _ _ _; refine hw_region (E := TrydE) Trydok ?_; (iterate 3 refine rq rfl rfl rfl rfl rfl ?_); refine rg_nil ?_; refine ⟨i + 1, ?_, ?_, ?_⟩
      · show i + 1 ≤ _; omega
      · first | omega | (dsimp only; omega)
      · exact ⟨⟨⟨_, rfl, (by first | exact CoR.refl _ | exact coi (by omega) | exact cob (by simp_all))⟩, ⟨_, rfl, (by rw [clTake (by omega)]; first | (rw [cl_f' (by assumption)]; exact CoR.refl _) | (simp only [Int.toNat_natCast]; rw [cl_t' (by assumption)]; exact CoR.refl _))⟩, ⟨_, rfl, CoR.refl _⟩, ⟨_, rfl, CoR.refl _⟩, trivial⟩, trivial⟩
  · skip
    have h0 := r0
    have h0 := of_decide_eq_false h0
    try simp only [Int.toNat_natCast] at h0
    obtain rfl : i = l.length := by omega
    refine hw_exit ?_; show HW _ _ _ _ _; refine hw_seq ?_; refine hw_region (E := TrydE) Trydok ?_; (iterate 3 refine rq rfl rfl rfl rfl rfl ?_); refine rg_nil ?_; show HW _ _ _ _ _
    refine hw_cond _ rfl (fun r2 => ?_) (fun r2 => ?_)
    · skip
      have h2 := r2
      have h2 := of_decide_eq_true h2
      try simp only [Int.toNat_natCast] at h2
      refine hw_seq ?_; refine hw_region (E := TrydE) Trydok ?_; (iterate 2 refine rq rfl rfl rfl rfl rfl ?_); refine rg_nil ?_; show HW _ _ _ _ _; refine hw_ret ?_; refine ⟨.inr rfl, ?_⟩
      have e2 : clStep l s = s := by
        have := asI_inj.1 (by assumption)
        rwa [List.take_length] at this
      exact ⟨_, _, _, _, rfl, (by (repeat' apply And.intro) <;> first | trivial | exact Nat.le_of_ble_eq_true rfl | rfl), rfl, (by (repeat' apply And.intro) <;> first | trivial | exact Nat.le_of_ble_eq_true rfl | rfl), ⟨cci (by rw [List.take_length, e2, ← hs, clo_fix e2]), trivial⟩⟩
    · skip
      have h2 := r2
      have h2 := of_decide_eq_false h2
      try simp only [Int.toNat_natCast] at h2
      refine hw_skip ?_; refine ⟨clStep l s, ?_, ?_, ?_⟩
      · show clo l (clStep l s) = clo l s0
        rw [clo_step]; exact hs
      · have hne : ¬ clStep l s = s := fun e => absurd (congrArg asI e) (by rw [List.take_length] at *; assumption)
        have := sub_lt (clStep_ge (l := l) (s := s)) (fun e => hne e.symm)
        have := (clStep l s).isLt
        show 4294967296 - (clStep l s).toNat < 4294967296 - s.toNat
        omega
      · exact ⟨⟨⟨_, rfl, (by rw [List.take_length]; exact CoR.refl _)⟩, ⟨_, rfl, CoR.refl _⟩, trivial⟩, trivial⟩
theorem good65 : goodFn Tryd.prog 65 := ⟨Tryd.f65, Tryd.func65, by kernel_rfl, by kernel_rfl⟩
theorem cValid (n : Int) (l : List Fd) : HPure Tryd.prog 65 [pI n, pP (fdl l)] (prOf [pI (vErr n l)]) := by
  refine hpure_of (nt := 31) Trydok Tryd.func65 rfl rfl (Nat.le_of_ble_eq_true rfl) ?_; refine hw_seq ?_
  refine hw_bt 1 rfl fun hlen => ?_
  refine hw_region (E := TrydE) Trydok ?_; refine rq rfl rfl rfl rfl rfl ?_; refine rg_nil ?_; show HW _ _ _ _ _; (iterate 2 refine hw_seq ?_); refine hw_region (E := TrydE) Trydok ?_; (iterate 3 refine rq rfl rfl rfl rfl rfl ?_)
  refine rsplit rfl rfl (fun r0 => ?_) (fun r0 => ?_)
  · skip
    have h0 := r0
    have h0 := of_decide_eq_true h0
    try simp only [Int.toNat_natCast] at h0
    (iterate 2 refine rk rfl rfl rfl (gtf r0) ?_); refine rq rfl rfl rfl rfl rfl ?_ (hp := r0); refine rg_nil ?_; show HW _ _ _ _ _; refine hw_cond _ rfl (fun _ => ?_) (fun e => by cases e); refine hw_seq ?_
    refine hw_region (E := TrydE) Trydok ?_; refine rq rfl rfl rfl rfl rfl ?_; refine rg_nil ?_; show HW _ _ _ _ _; refine hw_ret ?_; refine ⟨.inr rfl, ?_⟩
    exact ⟨_, _, _, _, rfl, (by (repeat' apply And.intro) <;> first | trivial | exact Nat.le_of_ble_eq_true rfl | rfl), rfl, (by (repeat' apply And.intro) <;> first | trivial | exact Nat.le_of_ble_eq_true rfl | rfl), ⟨cci (by rw [vErr, if_pos (by omega)]), trivial⟩⟩
  · skip
    have h0 := r0
    have h0 := of_decide_eq_false h0
    try simp only [Int.toNat_natCast] at h0
    (iterate 2 refine rq rfl rfl rfl rfl (gff r0) ?_); refine rq rfl rfl rfl rfl rfl ?_; refine rg_nil ?_; show HW _ _ _ _ _; refine hw_cond _ rfl (fun r1 => ?_) (fun r1 => ?_)
    · skip
      have h1 := r1
      have h1 := bif_f r0 h1
      have h1 := of_decide_eq_true h1
      try simp only [Int.toNat_natCast] at h1
      refine hw_seq ?_; refine hw_region (E := TrydE) Trydok ?_; refine rq rfl rfl rfl rfl rfl ?_; refine rg_nil ?_; show HW _ _ _ _ _; refine hw_ret ?_; refine ⟨.inr rfl, ?_⟩
      exact ⟨_, _, _, _, rfl, (by (repeat' apply And.intro) <;> first | trivial | exact Nat.le_of_ble_eq_true rfl | rfl), rfl, (by (repeat' apply And.intro) <;> first | trivial | exact Nat.le_of_ble_eq_true rfl | rfl), ⟨cci (by rw [vErr, if_pos (by omega)]), trivial⟩⟩
    · skip
      have h1 := r1
      have h1 := bif_f r0 h1
      have h1 := of_decide_eq_false h1
      try simp only [Int.toNat_natCast] at h1
      refine hw_skip ?_; show HW _ _ _ _ _; (iterate 2 refine hw_seq ?_); refine hw_region (E := TrydE) Trydok ?_; (iterate 3 refine rq rfl rfl rfl rfl rfl ?_); refine rg_nil ?_; show HW _ _ _ _ _
      refine hw_cond _ rfl (fun r2 => ?_) (fun r2 => ?_)
      · skip
        have h2 := r2
        have h2 := of_decide_eq_true h2
        try simp only [Int.toNat_natCast] at h2
        refine hw_seq ?_; refine hw_region (E := TrydE) Trydok ?_; refine rq rfl rfl rfl rfl rfl ?_; refine rg_nil ?_; show HW _ _ _ _ _; refine hw_ret ?_; refine ⟨.inr rfl, ?_⟩
        exact ⟨_, _, _, _, rfl, (by (repeat' apply And.intro) <;> first | trivial | exact Nat.le_of_ble_eq_true rfl | rfl), rfl, (by (repeat' apply And.intro) <;> first | trivial | exact Nat.le_of_ble_eq_true rfl | rfl), ⟨cci (by rw [vErr, if_neg (by omega), if_pos (by omega)]), trivial⟩⟩
      · skip
        have h2 := r2
        have h2 := of_decide_eq_false h2
        try simp only [Int.toNat_natCast] at h2
        refine hw_skip ?_; show HW _ _ _ _ _; (iterate 2 refine hw_seq ?_); refine hw_region (E := TrydE) Trydok ?_; (iterate 3 refine rq rfl rfl rfl rfl rfl ?_); refine rg_nil ?_; show HW _ _ _ _ _; refine hw_block ?_
        refine hw_loopK (ι := Nat) ⟨[(0, some _), (16, some _), (17, some _)], []⟩ ⟨⟨⟨_, rfl, CoR.refl _⟩, ⟨_, rfl, CoR.refl _⟩, ⟨_, rfl, CoR.refl _⟩, trivial⟩, trivial⟩ (fun i => ⟨[(18, some (vI i))], []⟩) (fun i => i ≤ l.length ∧ ∀ j, j < i → inU n (l.getD j default) = true) (fun i => l.length - i) (0) (⟨Nat.zero_le _, fun j hj => absurd hj (Nat.not_lt_zero j)⟩) ⟨⟨⟨_, rfl, (by first | exact CoR.refl _ | exact coi (by omega) | exact cob (by simp_all))⟩, trivial⟩, trivial⟩ ?_
        rintro i ⟨hi, hI⟩
        refine hw_seq ?_; refine hw_region (E := TrydE) Trydok ?_; refine rq rfl rfl rfl rfl rfl ?_; refine rg_nil ?_; show HW _ _ _ _ _; refine hw_seq ?_; refine hw_cond _ rfl (fun r3 => ?_) (fun r3 => ?_)
        · skip
          have h3 := r3
          have h3 := of_decide_eq_true h3
          try simp only [Int.toNat_natCast] at h3
          refine hw_skip ?_; show HW _ _ _ _ _; refine hw_seq ?_; refine hw_block ?_; refine hw_seq ?_; refine hw_region (E := TrydE) Trydok ?_; (iterate 2 refine rq rfl rfl rfl rfl rfl ?_); refine rm 0 rfl rfl rfl rfl rfl rfl ?_
          refine rs rfl rfl rfl rfl rfl ?_; refine rg_nil ?_; show HW _ _ _ _ _; refine hw_seq ?_; refine hw_region (E := TrydE) Trydok ?_; (iterate 8 refine rq rfl rfl rfl rfl rfl ?_); refine rg_nil ?_; show HW _ _ _ _ _
          refine hw_cond _ rfl (fun r4 => ?_) (fun r4 => ?_)
          · skip
            have h4 := r4
            have h4 := of_decide_eq_false (not_t h4)
            try simp only [Int.toNat_natCast] at h4
            refine hw_seq ?_; refine hw_region (E := TrydE) Trydok ?_; refine rq rfl rfl rfl rfl rfl ?_; refine rg_nil ?_; show HW _ _ _ _ _; refine hw_ret ?_; refine ⟨.inr rfl, ?_⟩
            exact ⟨_, _, _, _, rfl, (by (repeat' apply And.intro) <;> first | trivial | exact Nat.le_of_ble_eq_true rfl | rfl), rfl, (by (repeat' apply And.intro) <;> first | trivial | exact Nat.le_of_ble_eq_true rfl | rfl), ⟨cci (by rw [vErr, if_neg (by omega), if_neg (by omega), if_neg (fun e => absurd (all_f (l := l) (p := inU n) (i := i) (by omega) (by rw [Bool.eq_false_iff]; exact fun e => absurd (shr_iff.2 e) (by assumption))) (by rw [e]; decide))]), trivial⟩⟩
          · skip
            have h4 := r4
            have h4 := of_decide_eq_true (not_f h4)
            try simp only [Int.toNat_natCast] at h4
            refine hw_skip ?_; show HW _ _ _ _ _; refine hw_region (E := TrydE) Trydok ?_; (iterate 2 refine rq rfl rfl rfl rfl rfl ?_); refine rg_nil ?_; refine ⟨i + 1, ?_, ?_, ?_⟩
            · refine ⟨by omega, fun j hj => ?_⟩
              rcases Nat.lt_or_eq_of_le (Nat.le_of_lt_succ hj) with h | h
              · exact hI j h
              · subst h
                exact shr_iff.1 (by assumption)
            · first | omega | (dsimp only; omega)
            · exact ⟨⟨⟨_, rfl, (by first | exact CoR.refl _ | exact coi (by omega) | exact cob (by simp_all))⟩, ⟨_, rfl, CoR.refl _⟩, ⟨_, rfl, CoR.refl _⟩, ⟨_, rfl, CoR.refl _⟩, trivial⟩, trivial⟩
        · skip
          have h3 := r3
          have h3 := of_decide_eq_false h3
          try simp only [Int.toNat_natCast] at h3
          obtain rfl : i = l.length := by omega
          refine hw_exit ?_; show HW _ _ _ _ _; refine hw_seq ?_; refine hw_region (E := TrydE) Trydok ?_; refine rq rfl rfl rfl rfl rfl ?_; refine rg_nil ?_; show HW _ _ _ _ _; refine hw_ret ?_; refine ⟨.inr rfl, ?_⟩
          exact ⟨_, _, _, _, rfl, (by (repeat' apply And.intro) <;> first | trivial | exact Nat.le_of_ble_eq_true rfl | rfl), rfl, (by (repeat' apply And.intro) <;> first | trivial | exact Nat.le_of_ble_eq_true rfl | rfl), ⟨cci (by rw [vErr, if_neg (by omega), if_neg (by omega), if_pos (all_t fun j hj => hI j hj)]), trivial⟩⟩
theorem good28 : goodFn Tryd.prog 28 := ⟨Tryd.f28, Tryd.func28, by kernel_rfl, by kernel_rfl⟩
theorem cRFull (n : Int) : HPure Tryd.prog 28 [pI n] (prOf [pA (fullI n)]) := by
  refine hpure_of (nt := 19) Trydok Tryd.func28 rfl rfl (Nat.le_of_ble_eq_true rfl) ?_; refine hw_seq ?_; refine hw_region (E := TrydE) Trydok ?_; refine rq rfl rfl rfl rfl rfl ?_; refine rg_nil ?_; show HW _ _ _ _ _
  refine hw_seq ?_; refine hw_region (E := TrydE) Trydok ?_; refine rq rfl rfl rfl rfl rfl ?_; refine rg_nil ?_; show HW _ _ _ _ _; (iterate 2 refine hw_seq ?_); refine hw_region (E := TrydE) Trydok ?_
  refine rq rfl rfl rfl rfl rfl ?_; refine rg_nil ?_; show HW _ _ _ _ _; refine hw_block ?_
  refine hw_loopK (ι := Nat) ⟨[(0, some _)], []⟩ ⟨⟨⟨_, rfl, CoR.refl _⟩, trivial⟩, trivial⟩ (fun i => ⟨[(4, some (vI i)), (3, some (vA (fullS i)))], []⟩) (fun i => i ≤ min n.toNat 32) (fun i => min n.toNat 32 - i) (0) (Nat.zero_le _) ⟨⟨⟨_, rfl, (by first | exact CoR.refl _ | exact coi (by omega) | exact cob (by simp_all))⟩, ⟨_, rfl, (by first | exact CoR.refl _ | exact coi (by omega) | exact cob (by simp_all))⟩, trivial⟩, trivial⟩ ?_
  rintro i hi
  (iterate 2 refine hw_seq ?_); refine hw_region (E := TrydE) Trydok ?_; (iterate 4 refine rq rfl rfl rfl rfl rfl ?_); refine rsplit rfl rfl (fun r0 => ?_) (fun r0 => ?_)
  · skip
    have h0 := r0
    have h0 := of_decide_eq_true h0
    try simp only [Int.toNat_natCast] at h0
    (iterate 2 refine rq rfl rfl rfl rfl (gtt r0) ?_); refine rq rfl rfl rfl rfl rfl ?_; refine rg_nil ?_; show HW _ _ _ _ _; refine hw_cond _ rfl (fun r1 => ?_) (fun r1 => ?_)
    · skip
      have h1 := r1
      have h1 := bif_t r0 h1
      have h1 := of_decide_eq_true h1
      try simp only [Int.toNat_natCast] at h1
      refine hw_skip ?_; show HW _ _ _ _ _; refine hw_seq ?_; refine hw_block ?_; refine hw_region (E := TrydE) Trydok ?_; (iterate 5 refine rq rfl rfl rfl rfl rfl ?_); refine rg_nil ?_; show HW _ _ _ _ _
      refine hw_region (E := TrydE) Trydok ?_; (iterate 3 refine rq rfl rfl rfl rfl rfl ?_); refine rg_nil ?_; refine ⟨i + 1, ?_, ?_, ?_⟩
      · show i + 1 ≤ _; omega
      · first | omega | (dsimp only; omega)
      · exact ⟨⟨⟨_, rfl, (by first | exact CoR.refl _ | exact coi (by omega) | exact cob (by simp_all))⟩, ⟨_, rfl, (by simp only [Int.toNat_natCast]; exact cor_i (full_step i))⟩, ⟨_, rfl, CoR.refl _⟩, trivial⟩, trivial⟩
    · skip
      have h1 := r1
      have h1 := bif_t r0 h1
      have h1 := of_decide_eq_false h1
      try simp only [Int.toNat_natCast] at h1
      obtain rfl : i = min n.toNat 32 := by omega
      refine hw_exit ?_; show HW _ _ _ _ _; refine hw_seq ?_; refine hw_region (E := TrydE) Trydok ?_; (iterate 2 refine rq rfl rfl rfl rfl rfl ?_); refine rg_nil ?_; show HW _ _ _ _ _; refine hw_ret ?_; refine ⟨.inr rfl, ?_⟩
      exact ⟨_, _, _, _, rfl, (by (repeat' apply And.intro) <;> first | trivial | exact Nat.le_of_ble_eq_true rfl | rfl), rfl, (by (repeat' apply And.intro) <;> first | trivial | exact Nat.le_of_ble_eq_true rfl | rfl), CoL.refl _⟩
  · skip
    have h0 := r0
    have h0 := of_decide_eq_false h0
    try simp only [Int.toNat_natCast] at h0
    obtain rfl : i = min n.toNat 32 := by omega
    (iterate 2 refine rk rfl rfl rfl (gft r0) ?_); refine rq rfl rfl rfl rfl rfl ?_ (hp := r0); refine rg_nil ?_; show HW _ _ _ _ _; refine hw_cond _ rfl (fun e => by cases e) (fun _ => ?_); refine hw_exit ?_; show HW _ _ _ _ _
    refine hw_seq ?_; refine hw_region (E := TrydE) Trydok ?_; (iterate 2 refine rq rfl rfl rfl rfl rfl ?_); refine rg_nil ?_; show HW _ _ _ _ _; refine hw_ret ?_; refine ⟨.inr rfl, ?_⟩
    exact ⟨_, _, _, _, rfl, (by (repeat' apply And.intro) <;> first | trivial | exact Nat.le_of_ble_eq_true rfl | rfl), rfl, (by (repeat' apply And.intro) <;> first | trivial | exact Nat.le_of_ble_eq_true rfl | rfl), CoL.refl _⟩
end Go.Hx
end
section
namespace Go.Hx
theorem bit_one (i k : Nat) (hk : k < 32) : ((1 : AS) <<< i).getLsbD k = decide (k = i) := by
  rw [BitVec.getLsbD_shiftLeft]
  by_cases h : k < i
  · simp [h, hk]; omega
  · by_cases e : k = i
    · subst e; simp [hk]
    · have : 0 < k - i := by omega
      simp [hk, h, e, BitVec.getLsbD_one]
      omega
theorem fullS_bit : ∀ (n k : Nat), k < 32 → (fullS n).getLsbD k = decide (k < n)
  | 0, k, hk => by simp [fullS]
  | n + 1, k, hk => by
    rw [fullS_succ, BitVec.getLsbD_or, fullS_bit n k hk, bit_one n k hk]
    by_cases h : k < n
    · simp [h]; omega
    · by_cases e : k = n
      · simp [e]
      · simp [h, e]; omega
theorem shr0 {s : AS} {n : Nat} : s >>> n = 0 ↔ ∀ k, k < 32 → n ≤ k → s.getLsbD k = false := by
  constructor
  · intro h k hk hn
    have := congrArg (fun x : AS => x.getLsbD (k - n)) h
    simp only [BitVec.getLsbD_ushiftRight] at this
    rw [show n + (k - n) = k by omega] at this
    simpa using this
  · intro h
    apply BitVec.eq_of_getLsbD_eq
    intro i hi
    rw [BitVec.getLsbD_ushiftRight]
    by_cases hk : n + i < 32
    · rw [h (n + i) hk (by omega)]; simp
    · rw [BitVec.getLsbD_of_ge _ _ (by omega)]; simp
theorem within_iff {s : AS} {n : Nat} (hn : n ≤ 32) : sub s (fullS n) ↔ s >>> n = 0 := by
  rw [sub_bit, shr0]
  constructor
  · intro h k hk hle
    rw [Bool.eq_false_iff]
    intro e
    have := h k hk e
    rw [fullS_bit n k hk, decide_eq_true_iff] at this
    omega
  · intro h k hk e
    rw [fullS_bit n k hk, decide_eq_true_iff]
    apply Nat.lt_of_not_le
    intro hle
    rw [h k hk hle] at e
    cases e
theorem inU_iff {n : Int} (hn : 0 ≤ n) (h16 : n ≤ 16) {f : Fd} : inU n f = true ↔ sub f.lhs (fullI n) ∧ sub f.rhs (fullI n) := by
  unfold inU fullI
  rw [decide_eq_true_iff, Nat.min_eq_left (by omega), ← within_iff (by omega)]
  exact ⟨fun h => ⟨sub_trans sub_or_l h, sub_trans sub_or_r h⟩, fun h => or_sub h.1 h.2⟩
abbrev Fd.pc (f : Fd) : PC := .agg [f.c 0, f.c 1]
def imp (l : List Fd) (f : Fd) : Bool := decide (sub f.rhs (clo l f.lhs))
end Go.Hx
end
section
namespace Go.Hx
open Go.Proofs
set_option maxRecDepth 100000
theorem good19 : goodFn Tryd.prog 19 := ⟨Tryd.f19, Tryd.func19, by kernel_rfl, by kernel_rfl⟩
theorem cRValid (n : Int) (l : List Fd) : HPure Tryd.prog 19 [pI n, pP (fdl l)] (prOf [pI (vErr n l)]) := by
  refine hpure_of (nt := 42) Trydok Tryd.func19 rfl rfl (Nat.le_of_ble_eq_true rfl) ?_; refine hw_seq ?_
  refine hw_bt 1 rfl fun hlen => ?_
  refine hw_region (E := TrydE) Trydok ?_; refine rq rfl rfl rfl rfl rfl ?_; refine rg_nil ?_; show HW _ _ _ _ _; (iterate 2 refine hw_seq ?_); refine hw_region (E := TrydE) Trydok ?_; (iterate 3 refine rq rfl rfl rfl rfl rfl ?_)
  refine rsplit rfl rfl (fun r0 => ?_) (fun r0 => ?_)
  · skip
    have h0 := r0
    have h0 := of_decide_eq_true h0
    try simp only [Int.toNat_natCast] at h0
    (iterate 2 refine rk rfl rfl rfl (gtf r0) ?_); refine rq rfl rfl rfl rfl rfl ?_ (hp := r0); refine rg_nil ?_; show HW _ _ _ _ _; refine hw_cond _ rfl (fun _ => ?_) (fun e => by cases e); refine hw_seq ?_
    refine hw_region (E := TrydE) Trydok ?_; refine rq rfl rfl rfl rfl rfl ?_; refine rg_nil ?_; show HW _ _ _ _ _; refine hw_ret ?_; refine ⟨.inr rfl, ?_⟩
    exact ⟨_, _, _, _, rfl, (by (repeat' apply And.intro) <;> first | trivial | exact Nat.le_of_ble_eq_true rfl | rfl), rfl, (by (repeat' apply And.intro) <;> first | trivial | exact Nat.le_of_ble_eq_true rfl | rfl), ⟨cci (by rw [vErr, if_pos (by omega)]), trivial⟩⟩
  · skip
    have h0 := r0
    have h0 := of_decide_eq_false h0
    try simp only [Int.toNat_natCast] at h0
    (iterate 2 refine rq rfl rfl rfl rfl (gff r0) ?_); refine rq rfl rfl rfl rfl rfl ?_; refine rg_nil ?_; show HW _ _ _ _ _; refine hw_cond _ rfl (fun r1 => ?_) (fun r1 => ?_)
    · skip
      have h1 := r1
      have h1 := bif_f r0 h1
      have h1 := of_decide_eq_true h1
      try simp only [Int.toNat_natCast] at h1
      refine hw_seq ?_; refine hw_region (E := TrydE) Trydok ?_; refine rq rfl rfl rfl rfl rfl ?_; refine rg_nil ?_; show HW _ _ _ _ _; refine hw_ret ?_; refine ⟨.inr rfl, ?_⟩
      exact ⟨_, _, _, _, rfl, (by (repeat' apply And.intro) <;> first | trivial | exact Nat.le_of_ble_eq_true rfl | rfl), rfl, (by (repeat' apply And.intro) <;> first | trivial | exact Nat.le_of_ble_eq_true rfl | rfl), ⟨cci (by rw [vErr, if_pos (by omega)]), trivial⟩⟩
    · skip
      have h1 := r1
      have h1 := bif_f r0 h1
      have h1 := of_decide_eq_false h1
      try simp only [Int.toNat_natCast] at h1
      refine hw_skip ?_; show HW _ _ _ _ _; (iterate 2 refine hw_seq ?_); refine hw_region (E := TrydE) Trydok ?_; (iterate 3 refine rq rfl rfl rfl rfl rfl ?_); refine rg_nil ?_; show HW _ _ _ _ _
      refine hw_cond _ rfl (fun r2 => ?_) (fun r2 => ?_)
      · skip
        have h2 := r2
        have h2 := of_decide_eq_true h2
        try simp only [Int.toNat_natCast] at h2
        refine hw_seq ?_; refine hw_region (E := TrydE) Trydok ?_; refine rq rfl rfl rfl rfl rfl ?_; refine rg_nil ?_; show HW _ _ _ _ _; refine hw_ret ?_; refine ⟨.inr rfl, ?_⟩
        exact ⟨_, _, _, _, rfl, (by (repeat' apply And.intro) <;> first | trivial | exact Nat.le_of_ble_eq_true rfl | rfl), rfl, (by (repeat' apply And.intro) <;> first | trivial | exact Nat.le_of_ble_eq_true rfl | rfl), ⟨cci (by rw [vErr, if_neg (by omega), if_pos (by omega)]), trivial⟩⟩
      · skip
        have h2 := r2
        have h2 := of_decide_eq_false h2
        try simp only [Int.toNat_natCast] at h2
        refine hw_skip ?_; show HW _ _ _ _ _; refine hw_seq ?_; refine hw_region (E := TrydE) Trydok ?_; refine rq rfl rfl rfl rfl rfl ?_; refine rc rfl rfl rfl rfl rfl rfl good28 (cRFull n) (CoL.refl _) rfl rfl ?_
        refine rq rfl rfl rfl rfl rfl ?_; refine rg_nil ?_; show HW _ _ _ _ _; (iterate 2 refine hw_seq ?_); refine hw_region (E := TrydE) Trydok ?_; refine rq rfl rfl rfl rfl rfl ?_; refine rg_nil ?_; show HW _ _ _ _ _
        refine hw_block ?_
        refine hw_loopK (ι := Nat) ⟨[(1, some _), (5, some _)], []⟩ ⟨⟨⟨_, rfl, CoR.refl _⟩, ⟨_, rfl, CoR.refl _⟩, trivial⟩, trivial⟩ (fun i => ⟨[(6, some (vI i))], []⟩) (fun i => i ≤ l.length ∧ ∀ j, j < i → inU n (l.getD j default) = true) (fun i => l.length - i) (0) (⟨Nat.zero_le _, fun j hj => absurd hj (Nat.not_lt_zero j)⟩) ⟨⟨⟨_, rfl, (by first | exact CoR.refl _ | exact coi (by omega) | exact cob (by simp_all))⟩, trivial⟩, trivial⟩ ?_
        rintro i ⟨hi, hI⟩
        (iterate 2 refine hw_seq ?_); refine hw_region (E := TrydE) Trydok ?_; (iterate 4 refine rq rfl rfl rfl rfl rfl ?_); refine rg_nil ?_; show HW _ _ _ _ _; refine hw_cond _ rfl (fun r3 => ?_) (fun r3 => ?_)
        · skip
          have h3 := r3
          have h3 := of_decide_eq_true h3
          try simp only [Int.toNat_natCast] at h3
          refine hw_skip ?_; show HW _ _ _ _ _; refine hw_seq ?_; refine hw_block ?_; refine hw_seq ?_; refine hw_region (E := TrydE) Trydok ?_; (iterate 6 refine rq rfl rfl rfl rfl rfl ?_)
          refine rc rfl rfl rfl rfl rfl rfl good33 (cRSub _ _) (CoL.refl _) rfl rfl ?_; (iterate 2 refine rq rfl rfl rfl rfl rfl ?_); refine rsplit rfl rfl (fun r4 => ?_) (fun r4 => ?_)
          · skip
            have h4 := r4
            have h4 := not_t h4
            (iterate 8 refine rk rfl rfl rfl (gtf r4) ?_); refine rq rfl rfl rfl rfl rfl ?_ (hp := r4); refine rg_nil ?_; show HW _ _ _ _ _; refine hw_cond _ rfl (fun _ => ?_) (fun e => by cases e); refine hw_seq ?_
            refine hw_region (E := TrydE) Trydok ?_; refine rq rfl rfl rfl rfl rfl ?_; refine rg_nil ?_; show HW _ _ _ _ _; refine hw_ret ?_; refine ⟨.inr rfl, ?_⟩
            exact ⟨_, _, _, _, rfl, (by (repeat' apply And.intro) <;> first | trivial | exact Nat.le_of_ble_eq_true rfl | rfl), rfl, (by (repeat' apply And.intro) <;> first | trivial | exact Nat.le_of_ble_eq_true rfl | rfl), ⟨cci (by rw [vErr, if_neg (by omega), if_neg (by omega), if_neg (fun e => absurd (all_f (l := l) (p := inU n) (i := i) (by omega) (by rw [Bool.eq_false_iff]; intro e2; rw [inU_iff (by omega) (by omega)] at e2; simp_all)) (by rw [e]; decide))]), trivial⟩⟩
          · skip
            have h4 := r4
            have h4 := not_f h4
            (iterate 6 refine rq rfl rfl rfl rfl (gff r4) ?_); refine rc rfl rfl rfl rfl rfl rfl good33 (cRSub _ _) (CoL.refl _) rfl (gff r4) ?_; refine rq rfl rfl rfl rfl (gff r4) ?_; refine rq rfl rfl rfl rfl rfl ?_
            refine rg_nil ?_; show HW _ _ _ _ _; refine hw_cond _ rfl (fun r5 => ?_) (fun r5 => ?_)
            · skip
              have h5 := r5
              have h5 := bif_f r4 h5
              have h5 := not_t h5
              refine hw_seq ?_; refine hw_region (E := TrydE) Trydok ?_; refine rq rfl rfl rfl rfl rfl ?_; refine rg_nil ?_; show HW _ _ _ _ _; refine hw_ret ?_; refine ⟨.inr rfl, ?_⟩
              exact ⟨_, _, _, _, rfl, (by (repeat' apply And.intro) <;> first | trivial | exact Nat.le_of_ble_eq_true rfl | rfl), rfl, (by (repeat' apply And.intro) <;> first | trivial | exact Nat.le_of_ble_eq_true rfl | rfl), ⟨cci (by rw [vErr, if_neg (by omega), if_neg (by omega), if_neg (fun e => absurd (all_f (l := l) (p := inU n) (i := i) (by omega) (by rw [Bool.eq_false_iff]; intro e2; rw [inU_iff (by omega) (by omega)] at e2; simp_all)) (by rw [e]; decide))]), trivial⟩⟩
            · skip
              have h5 := r5
              have h5 := bif_f r4 h5
              have h5 := not_f h5
              refine hw_skip ?_; show HW _ _ _ _ _; refine hw_region (E := TrydE) Trydok ?_; (iterate 3 refine rq rfl rfl rfl rfl rfl ?_); refine rg_nil ?_; refine ⟨i + 1, ?_, ?_, ?_⟩
              · refine ⟨by omega, fun j hj => ?_⟩
                rcases Nat.lt_or_eq_of_le (Nat.le_of_lt_succ hj) with h | h
                · exact hI j h
                · subst h
                  exact (inU_iff (by omega) (by omega)).2 (by simp_all)
              · first | omega | (dsimp only; omega)
              · exact ⟨⟨⟨_, rfl, (by first | exact CoR.refl _ | exact coi (by omega) | exact cob (by simp_all))⟩, ⟨_, rfl, CoR.refl _⟩, ⟨_, rfl, CoR.refl _⟩, trivial⟩, trivial⟩
        · skip
          have h3 := r3
          have h3 := of_decide_eq_false h3
          try simp only [Int.toNat_natCast] at h3
          obtain rfl : i = l.length := by omega
          refine hw_exit ?_; show HW _ _ _ _ _; refine hw_seq ?_; refine hw_region (E := TrydE) Trydok ?_; refine rq rfl rfl rfl rfl rfl ?_; refine rg_nil ?_; show HW _ _ _ _ _; refine hw_ret ?_; refine ⟨.inr rfl, ?_⟩
          exact ⟨_, _, _, _, rfl, (by (repeat' apply And.intro) <;> first | trivial | exact Nat.le_of_ble_eq_true rfl | rfl), rfl, (by (repeat' apply And.intro) <;> first | trivial | exact Nat.le_of_ble_eq_true rfl | rfl), ⟨cci (by rw [vErr, if_neg (by omega), if_neg (by omega), if_pos (all_t fun j hj => hI j hj)]), trivial⟩⟩
theorem good128 : goodFn Tryd.prog 128 := ⟨Tryd.f128, Tryd.func128, by kernel_rfl, by kernel_rfl⟩
theorem cImp (l : List Fd) (x : Fd) : HPure Tryd.prog 128 [pP (fdl l), x.pc] (prOf [pB (imp l x)]) := by
  refine hpure_of (nt := 13) Trydok Tryd.func128 rfl rfl (Nat.le_of_ble_eq_true rfl) ?_; refine hw_seq ?_; refine hw_region (E := TrydE) Trydok ?_; refine rm 0 rfl rfl rfl rfl rfl rfl ?_; refine rq rfl rfl rfl rfl rfl ?_
  refine rg_nil ?_; show HW _ _ _ _ _; refine hw_seq ?_; refine hw_draw (E := TrydE) Trydok Trydmixed [0, 1, 2, 3, 4, 5, 6, 7, 8] ?_; (iterate 5 refine rq rfl rfl rfl rfl rfl ?_)
  refine rc rfl rfl rfl rfl rfl rfl good46 (cClose l x.lhs) (CoL.refl _) rfl rfl ?_; (iterate 3 refine rq rfl rfl rfl rfl rfl ?_); refine rg_nil ?_; refine ⟨by kernel_rfl, ?_⟩; show HW _ _ _ _ _; refine hw_ret ?_
  refine ⟨.inr rfl, ?_⟩
  exact ⟨_, _, _, _, rfl, (by (repeat' apply And.intro) <;> first | trivial | exact Nat.le_of_ble_eq_true rfl | rfl), rfl, (by (repeat' apply And.intro) <;> first | trivial | exact Nat.le_of_ble_eq_true rfl | rfl), ⟨ccb (decide_eq_decide.2 sub_iff_not), trivial⟩⟩
theorem good120 : goodFn Tryd.prog 120 := ⟨Tryd.f120, Tryd.func120, by kernel_rfl, by kernel_rfl⟩
theorem cRImp (l : List Fd) (x : Fd) : HPure Tryd.prog 120 [pP (fdl l), x.pc] (prOf [pB (imp l x)]) := by
  refine hpure_of (nt := 12) Trydok Tryd.func120 rfl rfl (Nat.le_of_ble_eq_true rfl) ?_; refine hw_seq ?_; refine hw_region (E := TrydE) Trydok ?_; refine rm 0 rfl rfl rfl rfl rfl rfl ?_; refine rq rfl rfl rfl rfl rfl ?_
  refine rg_nil ?_; show HW _ _ _ _ _; refine hw_seq ?_; refine hw_draw (E := TrydE) Trydok Trydmixed [0, 1, 2, 3, 4, 5, 6, 7] ?_; (iterate 5 refine rq rfl rfl rfl rfl rfl ?_)
  refine rc rfl rfl rfl rfl rfl rfl good49 (cRClose l x.lhs) (CoL.refl _) rfl rfl ?_; refine rc rfl rfl rfl rfl rfl rfl good33 (cRSub x.rhs (clo l x.lhs)) (CoL.refl _) rfl rfl ?_; refine rq rfl rfl rfl rfl rfl ?_; refine rg_nil ?_
  refine ⟨by kernel_rfl, ?_⟩; show HW _ _ _ _ _; refine hw_ret ?_; refine ⟨.inr rfl, ?_⟩
  exact ⟨_, _, _, _, rfl, (by (repeat' apply And.intro) <;> first | trivial | exact Nat.le_of_ble_eq_true rfl | rfl), rfl, (by (repeat' apply And.intro) <;> first | trivial | exact Nat.le_of_ble_eq_true rfl | rfl), CoL.refl _⟩
end Go.Hx
end
section
namespace Go.Hx
variable {α : Type}
theorem take_snoc [Inhabited α] {l : List α} {q : Nat} (hq : q < l.length) : l.take (q + 1) = l.take q ++ [l.getD q default] := by
  rw [List.take_add_one, List.getElem?_eq_getElem hq]
  simp [List.getD, hq]
theorem last_take [Inhabited α] {l : List α} {q : Nat} (h0 : 0 < q) (hq : q ≤ l.length) : (l.take q).getLast? = some (l.getD (q - 1) default) := by
  obtain ⟨k, rfl⟩ : ∃ k, q = k + 1 := ⟨q - 1, by omega⟩
  rw [take_snoc (by omega), List.getLast?_append]
  simp
section
variable [DecidableEq α]
def cmpF : Option α → List α → List α
  | _, [] => []
  | p, x :: l => if p = some x then cmpF p l else x :: cmpF (some x) l
def cmp1 (l : List α) : List α := cmpF none l
def lastOr (p : Option α) (l : List α) : Option α := match l.getLast? with | some y => some y | none => p
theorem lastOr_cons (p : Option α) (y : α) (l : List α) : lastOr p (y :: l) = lastOr (some y) l := by
  unfold lastOr
  cases l with
  | nil => rfl
  | cons z l => simp [List.getLast?_cons]
theorem cmpF_snoc (x : α) : ∀ (l : List α) (p : Option α), cmpF p (l ++ [x]) = cmpF p l ++ (if lastOr p l = some x then [] else [x])
  | [], p => by
    unfold lastOr
    simp only [List.nil_append, cmpF, List.getLast?_nil]
    by_cases h : p = some x <;> simp [h]
  | y :: l, p => by
    rw [lastOr_cons]
    simp only [List.cons_append, cmpF]
    split
    · rename_i h
      rw [cmpF_snoc x l p, h]
    · rw [cmpF_snoc x l (some y)]; rfl
theorem cmp1_step [Inhabited α] {l : List α} {q : Nat} (h0 : 0 < q) (hq : q < l.length) : cmp1 (l.take (q + 1)) = cmp1 (l.take q) ++ (if l.getD (q - 1) default = l.getD q default then [] else [l.getD q default]) := by
  unfold cmp1
  rw [take_snoc hq, cmpF_snoc]
  unfold lastOr
  rw [last_take h0 (by omega)]
  simp
theorem cmp1_pre [Inhabited α] {l : List α} : ∀ {k : Nat}, k ≤ l.length → (∀ j, 0 < j → j < k → ¬ l.getD j default = l.getD (j - 1) default) → cmp1 (l.take k) = l.take k
  | 0, _, _ => rfl
  | 1, hk, _ => by
    rw [take_snoc (by omega)]
    simp [cmp1, cmpF]
  | k + 2, hk, h => by
    rw [cmp1_step (by omega) (by omega), cmp1_pre (by omega) (fun j h1 h2 => h j h1 (by omega)), if_neg (fun e => h (k + 1) (by omega) (by omega) e.symm), ← take_snoc (by omega)]
theorem cmp1_sub : ∀ (l : List α) (p : Option α), ∀ x ∈ cmpF p l, x ∈ l
  | [], _, x, h => by simp [cmpF] at h
  | y :: l, p, x, h => by
    simp only [cmpF] at h
    split at h
    · exact List.mem_cons_of_mem _ (cmp1_sub l p x h)
    · rcases List.mem_cons.1 h with rfl | h
      · exact List.mem_cons_self
      · exact List.mem_cons_of_mem _ (cmp1_sub l _ x h)
theorem cmpF_mem : ∀ (l : List α) (p : Option α), ∀ x ∈ l, p = some x ∨ x ∈ cmpF p l
  | y :: l, p, x, h => by
    simp only [cmpF]
    split
    · rename_i hp
      rcases List.mem_cons.1 h with rfl | h
      · exact .inl hp
      · exact cmpF_mem l p x h
    · rcases List.mem_cons.1 h with rfl | h
      · exact .inr List.mem_cons_self
      · rcases cmpF_mem l (some y) x h with h | h
        · simp only [Option.some.injEq] at h
          subst h
          exact .inr List.mem_cons_self
        · exact .inr (List.mem_cons_of_mem _ h)
theorem mem_cmp1 {l : List α} {x : α} : x ∈ cmp1 l ↔ x ∈ l := ⟨cmp1_sub l none x, fun h => by
  rcases cmpF_mem l none x h with h | h
  · cases h
  · exact h⟩
end
section
variable [Inhabited α]
theorem getD_set_eq {l : List α} {p : Nat} {v : α} (hp : p < l.length) : (l.set p v).getD p default = v := by simp [List.getD, hp]
theorem getD_set_ne' {l : List α} {p j : Nat} {v : α} (h : j ≠ p) : (l.set p v).getD j default = l.getD j default := by
  simp only [List.getD, List.getElem?_set_ne (Ne.symm h)]
theorem co_set1 {wr wr' : Bool} {n p k : Nat} {e : TypeId} {c : α → Nat → PV} {l : List α} {v : α} {x : PV} (hw : wr' = true → wr = true) (hn : n = l.length) (hp : k = p) (hk : p < l.length) (hx : x = c v 0) :
    CoO (.arr wr 1 e n (setEl (lf c l) k 0 [x])) (.arr wr' 1 e n (lf c (l.set p v))) := by
  subst hp hx hn
  refine ⟨hw, rfl, rfl, rfl, fun i j hi hj => CoP.of_eq ?_⟩
  obtain rfl : j = 0 := by omega
  unfold setEl lf
  by_cases h : i = k
  · subst h
    rw [if_pos ⟨rfl, by omega, by simp⟩, getD_set_eq hk]
    rfl
  · rw [if_neg (by omega), getD_set_ne' h]
theorem co_setE {wr wr' : Bool} {n p k q d : Nat} {e : TypeId} {c : α → Nat → PV} {l l' : List α} (hw : wr' = true → wr = true) (hn : n = l.length) (hp : k = p) (hk : p < l.length) (hd : d = q) :
    CoO (.arr wr 1 e n (setEl (lf c l) k 0 [lf c l' d 0])) (.arr wr' 1 e n (lf c (l.set p (l'.getD q default)))) := co_set1 hw hn hp hk (by rw [hd]; rfl)
theorem co_cutZ {n m a : Nat} {cl : Bool} {c : α → Nat → PV} {l l' : List α} {z : List Value} {p : Option Int} {h : Option Int} (hn : less (upTo n h) p = l'.length) (hp : p = none) (ha : l'.length ≤ a) (hl : l' = l.take l'.length) :
    CoP (.sl (less (upTo n h) p) 1 cl (from_ (setZ (lf c l) a m z) p)) (psl 1 c l') := by
  subst hp
  refine CoP.sl hn.symm (.inl rfl) (fun h => by cases h) fun i j hi hj => CoP.of_eq ?_
  rw [hn] at hi
  show setZ (lf c l) a m z i j = lf c l' i j
  unfold setZ
  rw [if_neg (by omega)]
  simp only [lf, List.getD]
  have e : l'[i]? = l[i]? := by rw [hl, List.getElem?_take, if_pos hi]
  rw [e]
end
abbrev sC : AS → Nat → PV := fun s _ => asC s
structure CpI (l : List AS) (k p q : Nat) (m : List AS) : Prop where
  len : m.length = l.length
  kq : k < q
  pq : p < q
  ql : q ≤ l.length
  pre : m.take p = cmp1 (l.take q)
  high : ∀ j, q - 1 ≤ j → m.getD j default = l.getD j default
theorem CpI.start {l : List AS} {k : Nat} (h1 : 1 ≤ k) (hk : k < l.length) (h : ∀ j, 0 < j → j < k → ¬ l.getD j default = l.getD (j - 1) default) (hd : l.getD k default = l.getD (k - 1) default) : CpI l k k (k + 1) l :=
  ⟨rfl, by omega, by omega, by omega, by rw [cmp1_step (by omega) hk, if_pos hd.symm, List.append_nil, cmp1_pre (by omega) h], fun _ _ => rfl⟩
theorem CpI.skip {l : List AS} {k p q : Nat} {m : List AS} (h : CpI l k p q m) (hq : q < l.length) (he : m.getD q default = m.getD (q - 1) default) : CpI l k p (q + 1) m := by
  have hk := h.kq
  refine ⟨h.len, by omega, by have := h.pq; omega, hq, ?_, fun j hj => h.high j (by omega)⟩
  rw [h.high q (by omega), h.high (q - 1) (by omega)] at he
  rw [cmp1_step (by omega) hq, if_pos he.symm, List.append_nil, h.pre]
theorem CpI.keep {l : List AS} {k p q : Nat} {m : List AS} (h : CpI l k p q m) (hq : q < l.length) (he : ¬ m.getD q default = m.getD (q - 1) default) : CpI l k (p + 1) (q + 1) (m.set p (m.getD q default)) := by
  have hk := h.kq
  have hp := h.pq
  have hl := h.len
  refine ⟨by simp [hl], by omega, by omega, hq, ?_, fun j hj => by rw [getD_set_ne' (by omega)]; exact h.high j (by omega)⟩
  have e := h.high q (by omega)
  rw [e, h.high (q - 1) (by omega)] at he
  rw [cmp1_step (by omega) hq, if_neg (fun e => he e.symm), ← h.pre, take_snoc (by simp [hl]; omega), getD_set_eq (by omega), e]
  congr 1
  rw [List.take_set, List.set_eq_of_length_le (by simp; omega)]
theorem eq_of_i {l : List AS} {a b a' b' : Nat} (h : asI (l.getD a' default) = asI (l.getD b' default)) (ha : a' = a) (hb : b' = b) : l.getD a default = l.getD b default := by subst ha hb; exact asI_inj.1 h
theorem ne_of_i {l : List AS} {a b a' b' : Nat} (h : ¬ asI (l.getD a' default) = asI (l.getD b' default)) (ha : a' = a) (hb : b' = b) : ¬ l.getD a default = l.getD b default := by subst ha hb; exact fun e => h (congrArg asI e)
theorem co_all1 {l : List AS} {k : Nat} (hk : l.length ≤ k) (h : ∀ j, 0 < j → j < k → ¬ l.getD j default = l.getD (j - 1) default) : CoP (.sl l.length 1 false (lf sC l)) (asl (cmp1 l)) := by
  have := cmp1_pre (Nat.le_refl l.length) fun j h1 h2 => h j h1 (by omega)
  rw [List.take_length] at this
  rw [this]
  exact CoP.refl _
theorem co_cutC {l m : List AS} {k p q n a d : Nat} {cl : Bool} {z : List Value} (hC : CpI l k p q m) (hq : ¬ q < l.length) (ha : p ≤ a) : CoP (.sl (less (upTo n (some (p : Int))) none) 1 cl (from_ (setZ (lf sC m) a d z) none)) (asl (cmp1 l)) := by
  have e := hC.pre
  have h1 := hC.ql
  have h2 := hC.len
  have h3 := hC.pq
  rw [show q = l.length by omega, List.take_length] at e
  have el : (cmp1 l).length = p := by rw [← e]; simp; omega
  exact co_cutZ (by rw [el]; rfl) rfl (by omega) (by rw [el, e])
end Go.Hx
end
