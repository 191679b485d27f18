/- A part of the proof: lemmas for the theorem of this claim, merged by a program of ours out of V1, Cs4, V2, Cl1, V3, Cl2, V4, Cs5, Cs2. -/
import Derived.Test.YtididbpiikfaiaaDoorC18
set_option linter.all false
section
namespace Go.Hx
open Go.Proofs
set_option maxRecDepth 100000
theorem good44 : goodFn Tryd.prog 44 := ⟨Tryd.f44, Tryd.func44, by kernel_rfl, by kernel_rfl⟩
theorem cRSub (a b : AS) : HPure Tryd.prog 44 [pA a, pA b] (prOf [pB (decide (sub a b))]) := by
  refine hpure_of (nt := 10) Trydok Tryd.func44 rfl rfl (Nat.le_of_ble_eq_true rfl) ?_; refine hw_seq ?_; refine hw_region (E := TrydE) Trydok ?_; refine rq rfl rfl rfl rfl rfl ?_; refine rg_nil ?_; show HW _ _ _ _ _
  refine hw_seq ?_; refine hw_region (E := TrydE) Trydok ?_; (iterate 6 refine rq rfl rfl rfl rfl rfl ?_); refine rg_nil ?_; show HW _ _ _ _ _; refine hw_ret ?_; refine ⟨.inr rfl, ?_⟩
  exact ⟨_, _, _, _, rfl, (by (repeat' apply And.intro) <;> first | trivial | exact Nat.le_of_ble_eq_true rfl | rfl), rfl, (by (repeat' apply And.intro) <;> first | trivial | exact Nat.le_of_ble_eq_true rfl | rfl), ⟨ccb (decide_eq_decide.2 (by rw [bAnd, asI_inj]; exact sub_and.symm)), trivial⟩⟩
theorem good72 : goodFn Tryd.prog 72 := ⟨Tryd.f72, Tryd.func72, by kernel_rfl, by kernel_rfl⟩
theorem cValid (n : Int) (l : List Fd) : HPure Tryd.prog 72 [pI n, pP (fdl l)] (prOf [pI (vErr n l)]) := by
  refine hpure_of (nt := 31) Trydok Tryd.func72 rfl rfl (Nat.le_of_ble_eq_true rfl) ?_; refine hw_seq ?_
  refine hw_bt 1 rfl fun hlen => ?_
  refine hw_region (E := TrydE) Trydok ?_; refine rq rfl rfl rfl rfl rfl ?_; refine rg_nil ?_; show HW _ _ _ _ _; (iterate 2 refine hw_seq ?_); refine hw_region (E := TrydE) Trydok ?_; (iterate 3 refine rq rfl rfl rfl rfl rfl ?_)
  refine rsplit rfl rfl (fun r0 => ?_) (fun r0 => ?_)
  · skip
    have h0 := r0
    have h0 := of_decide_eq_true h0
    try simp only [Int.toNat_natCast] at h0
    (iterate 2 refine rk rfl rfl rfl (gtf r0) ?_); refine rq rfl rfl rfl rfl rfl ?_ (hp := r0); refine rg_nil ?_; show HW _ _ _ _ _; refine hw_cond _ rfl (fun _ => ?_) (fun e => by cases e); refine hw_seq ?_
    refine hw_region (E := TrydE) Trydok ?_; refine rq rfl rfl rfl rfl rfl ?_; refine rg_nil ?_; show HW _ _ _ _ _; refine hw_ret ?_; refine ⟨.inr rfl, ?_⟩
    exact ⟨_, _, _, _, rfl, (by (repeat' apply And.intro) <;> first | trivial | exact Nat.le_of_ble_eq_true rfl | rfl), rfl, (by (repeat' apply And.intro) <;> first | trivial | exact Nat.le_of_ble_eq_true rfl | rfl), ⟨cci (by rw [vErr, if_pos (by omega)]), trivial⟩⟩
  · skip
    have h0 := r0
    have h0 := of_decide_eq_false h0
    try simp only [Int.toNat_natCast] at h0
    (iterate 2 refine rq rfl rfl rfl rfl (gff r0) ?_); refine rq rfl rfl rfl rfl rfl ?_; refine rg_nil ?_; show HW _ _ _ _ _; refine hw_cond _ rfl (fun r1 => ?_) (fun r1 => ?_)
    · skip
      have h1 := r1
      have h1 := bif_f r0 h1
      have h1 := of_decide_eq_true h1
      try simp only [Int.toNat_natCast] at h1
      refine hw_seq ?_; refine hw_region (E := TrydE) Trydok ?_; refine rq rfl rfl rfl rfl rfl ?_; refine rg_nil ?_; show HW _ _ _ _ _; refine hw_ret ?_; refine ⟨.inr rfl, ?_⟩
      exact ⟨_, _, _, _, rfl, (by (repeat' apply And.intro) <;> first | trivial | exact Nat.le_of_ble_eq_true rfl | rfl), rfl, (by (repeat' apply And.intro) <;> first | trivial | exact Nat.le_of_ble_eq_true rfl | rfl), ⟨cci (by rw [vErr, if_pos (by omega)]), trivial⟩⟩
    · skip
      have h1 := r1
      have h1 := bif_f r0 h1
      have h1 := of_decide_eq_false h1
      try simp only [Int.toNat_natCast] at h1
      refine hw_skip ?_; show HW _ _ _ _ _; (iterate 2 refine hw_seq ?_); refine hw_region (E := TrydE) Trydok ?_; (iterate 3 refine rq rfl rfl rfl rfl rfl ?_); refine rg_nil ?_; show HW _ _ _ _ _
      refine hw_cond _ rfl (fun r2 => ?_) (fun r2 => ?_)
      · skip
        have h2 := r2
        have h2 := of_decide_eq_true h2
        try simp only [Int.toNat_natCast] at h2
        refine hw_seq ?_; refine hw_region (E := TrydE) Trydok ?_; refine rq rfl rfl rfl rfl rfl ?_; refine rg_nil ?_; show HW _ _ _ _ _; refine hw_ret ?_; refine ⟨.inr rfl, ?_⟩
        exact ⟨_, _, _, _, rfl, (by (repeat' apply And.intro) <;> first | trivial | exact Nat.le_of_ble_eq_true rfl | rfl), rfl, (by (repeat' apply And.intro) <;> first | trivial | exact Nat.le_of_ble_eq_true rfl | rfl), ⟨cci (by rw [vErr, if_neg (by omega), if_pos (by omega)]), trivial⟩⟩
      · skip
        have h2 := r2
        have h2 := of_decide_eq_false h2
        try simp only [Int.toNat_natCast] at h2
        refine hw_skip ?_; show HW _ _ _ _ _; (iterate 2 refine hw_seq ?_); refine hw_region (E := TrydE) Trydok ?_; (iterate 3 refine rq rfl rfl rfl rfl rfl ?_); refine rg_nil ?_; show HW _ _ _ _ _; refine hw_block ?_
        refine hw_loopK (ι := Nat) ⟨[(0, some _), (16, some _), (17, some _)], []⟩ ⟨⟨⟨_, rfl, CoR.refl _⟩, ⟨_, rfl, CoR.refl _⟩, ⟨_, rfl, CoR.refl _⟩, trivial⟩, trivial⟩ (fun i => ⟨[(18, some (vI i))], []⟩) (fun i => i ≤ l.length ∧ ∀ j, j < i → inU n (l.getD j default) = true) (fun i => l.length - i) (0) (⟨Nat.zero_le _, fun j hj => absurd hj (Nat.not_lt_zero j)⟩) ⟨⟨⟨_, rfl, (by first | exact CoR.refl _ | exact coi (by omega) | exact cob (by simp_all))⟩, trivial⟩, trivial⟩ ?_
        rintro i ⟨hi, hI⟩
        refine hw_seq ?_; refine hw_region (E := TrydE) Trydok ?_; refine rq rfl rfl rfl rfl rfl ?_; refine rg_nil ?_; show HW _ _ _ _ _; refine hw_seq ?_; refine hw_cond _ rfl (fun r3 => ?_) (fun r3 => ?_)
        · skip
          have h3 := r3
          have h3 := of_decide_eq_true h3
          try simp only [Int.toNat_natCast] at h3
          refine hw_skip ?_; show HW _ _ _ _ _; refine hw_seq ?_; refine hw_block ?_; refine hw_seq ?_; refine hw_region (E := TrydE) Trydok ?_; (iterate 2 refine rq rfl rfl rfl rfl rfl ?_); refine rm 0 rfl rfl rfl rfl rfl rfl ?_
          refine rs rfl rfl rfl rfl rfl ?_; refine rg_nil ?_; show HW _ _ _ _ _; refine hw_seq ?_; refine hw_region (E := TrydE) Trydok ?_; (iterate 8 refine rq rfl rfl rfl rfl rfl ?_); refine rg_nil ?_; show HW _ _ _ _ _
          refine hw_cond _ rfl (fun r4 => ?_) (fun r4 => ?_)
          · skip
            have h4 := r4
            have h4 := of_decide_eq_false (not_t h4)
            try simp only [Int.toNat_natCast] at h4
            refine hw_seq ?_; refine hw_region (E := TrydE) Trydok ?_; refine rq rfl rfl rfl rfl rfl ?_; refine rg_nil ?_; show HW _ _ _ _ _; refine hw_ret ?_; refine ⟨.inr rfl, ?_⟩
            exact ⟨_, _, _, _, rfl, (by (repeat' apply And.intro) <;> first | trivial | exact Nat.le_of_ble_eq_true rfl | rfl), rfl, (by (repeat' apply And.intro) <;> first | trivial | exact Nat.le_of_ble_eq_true rfl | rfl), ⟨cci (by rw [vErr, if_neg (by omega), if_neg (by omega), if_neg (fun e => absurd (all_f (l := l) (p := inU n) (i := i) (by omega) (by rw [Bool.eq_false_iff]; exact fun e => absurd (shr_iff.2 e) (by assumption))) (by rw [e]; decide))]), trivial⟩⟩
          · skip
            have h4 := r4
            have h4 := of_decide_eq_true (not_f h4)
            try simp only [Int.toNat_natCast] at h4
            refine hw_skip ?_; show HW _ _ _ _ _; refine hw_region (E := TrydE) Trydok ?_; (iterate 2 refine rq rfl rfl rfl rfl rfl ?_); refine rg_nil ?_; refine ⟨i + 1, ?_, ?_, ?_⟩
            · refine ⟨by omega, fun j hj => ?_⟩
              rcases Nat.lt_or_eq_of_le (Nat.le_of_lt_succ hj) with h | h
              · exact hI j h
              · subst h
                exact shr_iff.1 (by assumption)
            · first | omega | (dsimp only; omega)
            · exact ⟨⟨⟨_, rfl, (by first | exact CoR.refl _ | exact coi (by omega) | exact cob (by simp_all))⟩, ⟨_, rfl, CoR.refl _⟩, ⟨_, rfl, CoR.refl _⟩, ⟨_, rfl, CoR.refl _⟩, trivial⟩, trivial⟩
        · skip
          have h3 := r3
          have h3 := of_decide_eq_false h3
          try simp only [Int.toNat_natCast] at h3
          obtain rfl : i = l.length := by omega
          refine hw_exit ?_; show HW _ _ _ _ _; refine hw_seq ?_; refine hw_region (E := TrydE) Trydok ?_; refine rq rfl rfl rfl rfl rfl ?_; refine rg_nil ?_; show HW _ _ _ _ _; refine hw_ret ?_; refine ⟨.inr rfl, ?_⟩
          exact ⟨_, _, _, _, rfl, (by (repeat' apply And.intro) <;> first | trivial | exact Nat.le_of_ble_eq_true rfl | rfl), rfl, (by (repeat' apply And.intro) <;> first | trivial | exact Nat.le_of_ble_eq_true rfl | rfl), ⟨cci (by rw [vErr, if_neg (by omega), if_neg (by omega), if_pos (all_t fun j hj => hI j hj)]), trivial⟩⟩
theorem good30 : goodFn Tryd.prog 30 := ⟨Tryd.f30, Tryd.func30, by kernel_rfl, by kernel_rfl⟩
theorem cRFull (n : Int) : HPure Tryd.prog 30 [pI n] (prOf [pA (fullI n)]) := by
  refine hpure_of (nt := 19) Trydok Tryd.func30 rfl rfl (Nat.le_of_ble_eq_true rfl) ?_; refine hw_seq ?_; refine hw_region (E := TrydE) Trydok ?_; refine rq rfl rfl rfl rfl rfl ?_; refine rg_nil ?_; show HW _ _ _ _ _
  refine hw_seq ?_; refine hw_region (E := TrydE) Trydok ?_; refine rq rfl rfl rfl rfl rfl ?_; refine rg_nil ?_; show HW _ _ _ _ _; (iterate 2 refine hw_seq ?_); refine hw_region (E := TrydE) Trydok ?_
  refine rq rfl rfl rfl rfl rfl ?_; refine rg_nil ?_; show HW _ _ _ _ _; refine hw_block ?_
  refine hw_loopK (ι := Nat) ⟨[(0, some _)], []⟩ ⟨⟨⟨_, rfl, CoR.refl _⟩, trivial⟩, trivial⟩ (fun i => ⟨[(4, some (vI i)), (3, some (vA (fullS i)))], []⟩) (fun i => i ≤ min n.toNat 32) (fun i => min n.toNat 32 - i) (0) (Nat.zero_le _) ⟨⟨⟨_, rfl, (by first | exact CoR.refl _ | exact coi (by omega) | exact cob (by simp_all))⟩, ⟨_, rfl, (by first | exact CoR.refl _ | exact coi (by omega) | exact cob (by simp_all))⟩, trivial⟩, trivial⟩ ?_
  rintro i hi
  (iterate 2 refine hw_seq ?_); refine hw_region (E := TrydE) Trydok ?_; (iterate 4 refine rq rfl rfl rfl rfl rfl ?_); refine rsplit rfl rfl (fun r0 => ?_) (fun r0 => ?_)
  · skip
    have h0 := r0
    have h0 := of_decide_eq_true h0
    try simp only [Int.toNat_natCast] at h0
    (iterate 2 refine rq rfl rfl rfl rfl (gtt r0) ?_); refine rq rfl rfl rfl rfl rfl ?_; refine rg_nil ?_; show HW _ _ _ _ _; refine hw_cond _ rfl (fun r1 => ?_) (fun r1 => ?_)
    · skip
      have h1 := r1
      have h1 := bif_t r0 h1
      have h1 := of_decide_eq_true h1
      try simp only [Int.toNat_natCast] at h1
      refine hw_skip ?_; show HW _ _ _ _ _; refine hw_seq ?_; refine hw_block ?_; refine hw_region (E := TrydE) Trydok ?_; (iterate 5 refine rq rfl rfl rfl rfl rfl ?_); refine rg_nil ?_; show HW _ _ _ _ _
      refine hw_region (E := TrydE) Trydok ?_; (iterate 3 refine rq rfl rfl rfl rfl rfl ?_); refine rg_nil ?_; refine ⟨i + 1, ?_, ?_, ?_⟩
      · show i + 1 ≤ _; omega
      · first | omega | (dsimp only; omega)
      · exact ⟨⟨⟨_, rfl, (by first | exact CoR.refl _ | exact coi (by omega) | exact cob (by simp_all))⟩, ⟨_, rfl, (by simp only [Int.toNat_natCast]; exact cor_i (full_step i))⟩, ⟨_, rfl, CoR.refl _⟩, trivial⟩, trivial⟩
    · skip
      have h1 := r1
      have h1 := bif_t r0 h1
      have h1 := of_decide_eq_false h1
      try simp only [Int.toNat_natCast] at h1
      obtain rfl : i = min n.toNat 32 := by omega
      refine hw_exit ?_; show HW _ _ _ _ _; refine hw_seq ?_; refine hw_region (E := TrydE) Trydok ?_; (iterate 2 refine rq rfl rfl rfl rfl rfl ?_); refine rg_nil ?_; show HW _ _ _ _ _; refine hw_ret ?_; refine ⟨.inr rfl, ?_⟩
      exact ⟨_, _, _, _, rfl, (by (repeat' apply And.intro) <;> first | trivial | exact Nat.le_of_ble_eq_true rfl | rfl), rfl, (by (repeat' apply And.intro) <;> first | trivial | exact Nat.le_of_ble_eq_true rfl | rfl), CoL.refl _⟩
  · skip
    have h0 := r0
    have h0 := of_decide_eq_false h0
    try simp only [Int.toNat_natCast] at h0
    obtain rfl : i = min n.toNat 32 := by omega
    (iterate 2 refine rk rfl rfl rfl (gft r0) ?_); refine rq rfl rfl rfl rfl rfl ?_ (hp := r0); refine rg_nil ?_; show HW _ _ _ _ _; refine hw_cond _ rfl (fun e => by cases e) (fun _ => ?_); refine hw_exit ?_; show HW _ _ _ _ _
    refine hw_seq ?_; refine hw_region (E := TrydE) Trydok ?_; (iterate 2 refine rq rfl rfl rfl rfl rfl ?_); refine rg_nil ?_; show HW _ _ _ _ _; refine hw_ret ?_; refine ⟨.inr rfl, ?_⟩
    exact ⟨_, _, _, _, rfl, (by (repeat' apply And.intro) <;> first | trivial | exact Nat.le_of_ble_eq_true rfl | rfl), rfl, (by (repeat' apply And.intro) <;> first | trivial | exact Nat.le_of_ble_eq_true rfl | rfl), CoL.refl _⟩
end Go.Hx
end
section
namespace Go.Hx
theorem bit_one (i k : Nat) (hk : k < 32) : ((1 : AS) <<< i).getLsbD k = decide (k = i) := by
  rw [BitVec.getLsbD_shiftLeft]
  by_cases h : k < i
  · simp [h, hk]; omega
  · by_cases e : k = i
    · subst e; simp [hk]
    · have : 0 < k - i := by omega
      simp [hk, h, e, BitVec.getLsbD_one]
      omega
theorem fullS_bit : ∀ (n k : Nat), k < 32 → (fullS n).getLsbD k = decide (k < n)
  | 0, k, hk => by simp [fullS]
  | n + 1, k, hk => by
    rw [fullS_succ, BitVec.getLsbD_or, fullS_bit n k hk, bit_one n k hk]
    by_cases h : k < n
    · simp [h]; omega
    · by_cases e : k = n
      · simp [e]
      · simp [h, e]; omega
theorem shr0 {s : AS} {n : Nat} : s >>> n = 0 ↔ ∀ k, k < 32 → n ≤ k → s.getLsbD k = false := by
  constructor
  · intro h k hk hn
    have := congrArg (fun x : AS => x.getLsbD (k - n)) h
    simp only [BitVec.getLsbD_ushiftRight] at this
    rw [show n + (k - n) = k by omega] at this
    simpa using this
  · intro h
    apply BitVec.eq_of_getLsbD_eq
    intro i hi
    rw [BitVec.getLsbD_ushiftRight]
    by_cases hk : n + i < 32
    · rw [h (n + i) hk (by omega)]; simp
    · rw [BitVec.getLsbD_of_ge _ _ (by omega)]; simp
theorem within_iff {s : AS} {n : Nat} (hn : n ≤ 32) : sub s (fullS n) ↔ s >>> n = 0 := by
  rw [sub_bit, shr0]
  constructor
  · intro h k hk hle
    rw [Bool.eq_false_iff]
    intro e
    have := h k hk e
    rw [fullS_bit n k hk, decide_eq_true_iff] at this
    omega
  · intro h k hk e
    rw [fullS_bit n k hk, decide_eq_true_iff]
    apply Nat.lt_of_not_le
    intro hle
    rw [h k hk hle] at e
    cases e
theorem inU_iff {n : Int} (hn : 0 ≤ n) (h16 : n ≤ 16) {f : Fd} : inU n f = true ↔ sub f.lhs (fullI n) ∧ sub f.rhs (fullI n) := by
  unfold inU fullI
  rw [decide_eq_true_iff, Nat.min_eq_left (by omega), ← within_iff (by omega)]
  exact ⟨fun h => ⟨sub_trans sub_or_l h, sub_trans sub_or_r h⟩, fun h => or_sub h.1 h.2⟩
abbrev Fd.pc (f : Fd) : PC := .agg [f.c 0, f.c 1]
def imp (l : List Fd) (f : Fd) : Bool := decide (sub f.rhs (clo l f.lhs))
end Go.Hx
end
section
namespace Go.Hx
open Go.Proofs
set_option maxRecDepth 100000
theorem good69 : goodFn Tryd.prog 69 := ⟨Tryd.f69, Tryd.func69, by kernel_rfl, by kernel_rfl⟩
theorem cRValid (n : Int) (l : List Fd) : HPure Tryd.prog 69 [pI n, pP (fdl l)] (prOf [pI (vErr n l)]) := by
  refine hpure_of (nt := 42) Trydok Tryd.func69 rfl rfl (Nat.le_of_ble_eq_true rfl) ?_; refine hw_seq ?_
  refine hw_bt 1 rfl fun hlen => ?_
  refine hw_region (E := TrydE) Trydok ?_; refine rq rfl rfl rfl rfl rfl ?_; refine rg_nil ?_; show HW _ _ _ _ _; (iterate 2 refine hw_seq ?_); refine hw_region (E := TrydE) Trydok ?_; (iterate 3 refine rq rfl rfl rfl rfl rfl ?_)
  refine rsplit rfl rfl (fun r0 => ?_) (fun r0 => ?_)
  · skip
    have h0 := r0
    have h0 := of_decide_eq_true h0
    try simp only [Int.toNat_natCast] at h0
    (iterate 2 refine rk rfl rfl rfl (gtf r0) ?_); refine rq rfl rfl rfl rfl rfl ?_ (hp := r0); refine rg_nil ?_; show HW _ _ _ _ _; refine hw_cond _ rfl (fun _ => ?_) (fun e => by cases e); refine hw_seq ?_
    refine hw_region (E := TrydE) Trydok ?_; refine rq rfl rfl rfl rfl rfl ?_; refine rg_nil ?_; show HW _ _ _ _ _; refine hw_ret ?_; refine ⟨.inr rfl, ?_⟩
    exact ⟨_, _, _, _, rfl, (by (repeat' apply And.intro) <;> first | trivial | exact Nat.le_of_ble_eq_true rfl | rfl), rfl, (by (repeat' apply And.intro) <;> first | trivial | exact Nat.le_of_ble_eq_true rfl | rfl), ⟨cci (by rw [vErr, if_pos (by omega)]), trivial⟩⟩
  · skip
    have h0 := r0
    have h0 := of_decide_eq_false h0
    try simp only [Int.toNat_natCast] at h0
    (iterate 2 refine rq rfl rfl rfl rfl (gff r0) ?_); refine rq rfl rfl rfl rfl rfl ?_; refine rg_nil ?_; show HW _ _ _ _ _; refine hw_cond _ rfl (fun r1 => ?_) (fun r1 => ?_)
    · skip
      have h1 := r1
      have h1 := bif_f r0 h1
      have h1 := of_decide_eq_true h1
      try simp only [Int.toNat_natCast] at h1
      refine hw_seq ?_; refine hw_region (E := TrydE) Trydok ?_; refine rq rfl rfl rfl rfl rfl ?_; refine rg_nil ?_; show HW _ _ _ _ _; refine hw_ret ?_; refine ⟨.inr rfl, ?_⟩
      exact ⟨_, _, _, _, rfl, (by (repeat' apply And.intro) <;> first | trivial | exact Nat.le_of_ble_eq_true rfl | rfl), rfl, (by (repeat' apply And.intro) <;> first | trivial | exact Nat.le_of_ble_eq_true rfl | rfl), ⟨cci (by rw [vErr, if_pos (by omega)]), trivial⟩⟩
    · skip
      have h1 := r1
      have h1 := bif_f r0 h1
      have h1 := of_decide_eq_false h1
      try simp only [Int.toNat_natCast] at h1
      refine hw_skip ?_; show HW _ _ _ _ _; (iterate 2 refine hw_seq ?_); refine hw_region (E := TrydE) Trydok ?_; (iterate 3 refine rq rfl rfl rfl rfl rfl ?_); refine rg_nil ?_; show HW _ _ _ _ _
      refine hw_cond _ rfl (fun r2 => ?_) (fun r2 => ?_)
      · skip
        have h2 := r2
        have h2 := of_decide_eq_true h2
        try simp only [Int.toNat_natCast] at h2
        refine hw_seq ?_; refine hw_region (E := TrydE) Trydok ?_; refine rq rfl rfl rfl rfl rfl ?_; refine rg_nil ?_; show HW _ _ _ _ _; refine hw_ret ?_; refine ⟨.inr rfl, ?_⟩
        exact ⟨_, _, _, _, rfl, (by (repeat' apply And.intro) <;> first | trivial | exact Nat.le_of_ble_eq_true rfl | rfl), rfl, (by (repeat' apply And.intro) <;> first | trivial | exact Nat.le_of_ble_eq_true rfl | rfl), ⟨cci (by rw [vErr, if_neg (by omega), if_pos (by omega)]), trivial⟩⟩
      · skip
        have h2 := r2
        have h2 := of_decide_eq_false h2
        try simp only [Int.toNat_natCast] at h2
        refine hw_skip ?_; show HW _ _ _ _ _; refine hw_seq ?_; refine hw_region (E := TrydE) Trydok ?_; refine rq rfl rfl rfl rfl rfl ?_; refine rc rfl rfl rfl rfl rfl rfl good30 (cRFull n) (CoL.refl _) rfl rfl ?_
        refine rq rfl rfl rfl rfl rfl ?_; refine rg_nil ?_; show HW _ _ _ _ _; (iterate 2 refine hw_seq ?_); refine hw_region (E := TrydE) Trydok ?_; refine rq rfl rfl rfl rfl rfl ?_; refine rg_nil ?_; show HW _ _ _ _ _
        refine hw_block ?_
        refine hw_loopK (ι := Nat) ⟨[(1, some _), (5, some _)], []⟩ ⟨⟨⟨_, rfl, CoR.refl _⟩, ⟨_, rfl, CoR.refl _⟩, trivial⟩, trivial⟩ (fun i => ⟨[(6, some (vI i))], []⟩) (fun i => i ≤ l.length ∧ ∀ j, j < i → inU n (l.getD j default) = true) (fun i => l.length - i) (0) (⟨Nat.zero_le _, fun j hj => absurd hj (Nat.not_lt_zero j)⟩) ⟨⟨⟨_, rfl, (by first | exact CoR.refl _ | exact coi (by omega) | exact cob (by simp_all))⟩, trivial⟩, trivial⟩ ?_
        rintro i ⟨hi, hI⟩
        (iterate 2 refine hw_seq ?_); refine hw_region (E := TrydE) Trydok ?_; (iterate 4 refine rq rfl rfl rfl rfl rfl ?_); refine rg_nil ?_; show HW _ _ _ _ _; refine hw_cond _ rfl (fun r3 => ?_) (fun r3 => ?_)
        · skip
          have h3 := r3
          have h3 := of_decide_eq_true h3
          try simp only [Int.toNat_natCast] at h3
          refine hw_skip ?_; show HW _ _ _ _ _; refine hw_seq ?_; refine hw_block ?_; refine hw_seq ?_; refine hw_region (E := TrydE) Trydok ?_; (iterate 6 refine rq rfl rfl rfl rfl rfl ?_)
          refine rc rfl rfl rfl rfl rfl rfl good44 (cRSub _ _) (CoL.refl _) rfl rfl ?_; (iterate 2 refine rq rfl rfl rfl rfl rfl ?_); refine rsplit rfl rfl (fun r4 => ?_) (fun r4 => ?_)
          · skip
            have h4 := r4
            have h4 := not_t h4
            (iterate 8 refine rk rfl rfl rfl (gtf r4) ?_); refine rq rfl rfl rfl rfl rfl ?_ (hp := r4); refine rg_nil ?_; show HW _ _ _ _ _; refine hw_cond _ rfl (fun _ => ?_) (fun e => by cases e); refine hw_seq ?_
            refine hw_region (E := TrydE) Trydok ?_; refine rq rfl rfl rfl rfl rfl ?_; refine rg_nil ?_; show HW _ _ _ _ _; refine hw_ret ?_; refine ⟨.inr rfl, ?_⟩
            exact ⟨_, _, _, _, rfl, (by (repeat' apply And.intro) <;> first | trivial | exact Nat.le_of_ble_eq_true rfl | rfl), rfl, (by (repeat' apply And.intro) <;> first | trivial | exact Nat.le_of_ble_eq_true rfl | rfl), ⟨cci (by rw [vErr, if_neg (by omega), if_neg (by omega), if_neg (fun e => absurd (all_f (l := l) (p := inU n) (i := i) (by omega) (by rw [Bool.eq_false_iff]; intro e2; rw [inU_iff (by omega) (by omega)] at e2; simp_all)) (by rw [e]; decide))]), trivial⟩⟩
          · skip
            have h4 := r4
            have h4 := not_f h4
            (iterate 6 refine rq rfl rfl rfl rfl (gff r4) ?_); refine rc rfl rfl rfl rfl rfl rfl good44 (cRSub _ _) (CoL.refl _) rfl (gff r4) ?_; refine rq rfl rfl rfl rfl (gff r4) ?_; refine rq rfl rfl rfl rfl rfl ?_
            refine rg_nil ?_; show HW _ _ _ _ _; refine hw_cond _ rfl (fun r5 => ?_) (fun r5 => ?_)
            · skip
              have h5 := r5
              have h5 := bif_f r4 h5
              have h5 := not_t h5
              refine hw_seq ?_; refine hw_region (E := TrydE) Trydok ?_; refine rq rfl rfl rfl rfl rfl ?_; refine rg_nil ?_; show HW _ _ _ _ _; refine hw_ret ?_; refine ⟨.inr rfl, ?_⟩
              exact ⟨_, _, _, _, rfl, (by (repeat' apply And.intro) <;> first | trivial | exact Nat.le_of_ble_eq_true rfl | rfl), rfl, (by (repeat' apply And.intro) <;> first | trivial | exact Nat.le_of_ble_eq_true rfl | rfl), ⟨cci (by rw [vErr, if_neg (by omega), if_neg (by omega), if_neg (fun e => absurd (all_f (l := l) (p := inU n) (i := i) (by omega) (by rw [Bool.eq_false_iff]; intro e2; rw [inU_iff (by omega) (by omega)] at e2; simp_all)) (by rw [e]; decide))]), trivial⟩⟩
            · skip
              have h5 := r5
              have h5 := bif_f r4 h5
              have h5 := not_f h5
              refine hw_skip ?_; show HW _ _ _ _ _; refine hw_region (E := TrydE) Trydok ?_; (iterate 3 refine rq rfl rfl rfl rfl rfl ?_); refine rg_nil ?_; refine ⟨i + 1, ?_, ?_, ?_⟩
              · refine ⟨by omega, fun j hj => ?_⟩
                rcases Nat.lt_or_eq_of_le (Nat.le_of_lt_succ hj) with h | h
                · exact hI j h
                · subst h
                  exact (inU_iff (by omega) (by omega)).2 (by simp_all)
              · first | omega | (dsimp only; omega)
              · exact ⟨⟨⟨_, rfl, (by first | exact CoR.refl _ | exact coi (by omega) | exact cob (by simp_all))⟩, ⟨_, rfl, CoR.refl _⟩, ⟨_, rfl, CoR.refl _⟩, trivial⟩, trivial⟩
        · skip
          have h3 := r3
          have h3 := of_decide_eq_false h3
          try simp only [Int.toNat_natCast] at h3
          obtain rfl : i = l.length := by omega
          refine hw_exit ?_; show HW _ _ _ _ _; refine hw_seq ?_; refine hw_region (E := TrydE) Trydok ?_; refine rq rfl rfl rfl rfl rfl ?_; refine rg_nil ?_; show HW _ _ _ _ _; refine hw_ret ?_; refine ⟨.inr rfl, ?_⟩
          exact ⟨_, _, _, _, rfl, (by (repeat' apply And.intro) <;> first | trivial | exact Nat.le_of_ble_eq_true rfl | rfl), rfl, (by (repeat' apply And.intro) <;> first | trivial | exact Nat.le_of_ble_eq_true rfl | rfl), ⟨cci (by rw [vErr, if_neg (by omega), if_neg (by omega), if_pos (all_t fun j hj => hI j hj)]), trivial⟩⟩
end Go.Hx
end
section
namespace Go.Hx
variable {α : Type}
theorem take_snoc [Inhabited α] {l : List α} {q : Nat} (hq : q < l.length) : l.take (q + 1) = l.take q ++ [l.getD q default] := by
  rw [List.take_add_one, List.getElem?_eq_getElem hq]
  simp [List.getD, hq]
theorem last_take [Inhabited α] {l : List α} {q : Nat} (h0 : 0 < q) (hq : q ≤ l.length) : (l.take q).getLast? = some (l.getD (q - 1) default) := by
  obtain ⟨k, rfl⟩ : ∃ k, q = k + 1 := ⟨q - 1, by omega⟩
  rw [take_snoc (by omega), List.getLast?_append]
  simp
section
variable [DecidableEq α]
def cmpF : Option α → List α → List α
  | _, [] => []
  | p, x :: l => if p = some x then cmpF p l else x :: cmpF (some x) l
def cmp1 (l : List α) : List α := cmpF none l
def lastOr (p : Option α) (l : List α) : Option α := match l.getLast? with | some y => some y | none => p
theorem lastOr_cons (p : Option α) (y : α) (l : List α) : lastOr p (y :: l) = lastOr (some y) l := by
  unfold lastOr
  cases l with
  | nil => rfl
  | cons z l => simp [List.getLast?_cons]
theorem cmpF_snoc (x : α) : ∀ (l : List α) (p : Option α), cmpF p (l ++ [x]) = cmpF p l ++ (if lastOr p l = some x then [] else [x])
  | [], p => by
    unfold lastOr
    simp only [List.nil_append, cmpF, List.getLast?_nil]
    by_cases h : p = some x <;> simp [h]
  | y :: l, p => by
    rw [lastOr_cons]
    simp only [List.cons_append, cmpF]
    split
    · rename_i h
      rw [cmpF_snoc x l p, h]
    · rw [cmpF_snoc x l (some y)]; rfl
theorem cmp1_step [Inhabited α] {l : List α} {q : Nat} (h0 : 0 < q) (hq : q < l.length) : cmp1 (l.take (q + 1)) = cmp1 (l.take q) ++ (if l.getD (q - 1) default = l.getD q default then [] else [l.getD q default]) := by
  unfold cmp1
  rw [take_snoc hq, cmpF_snoc]
  unfold lastOr
  rw [last_take h0 (by omega)]
  simp
theorem cmp1_pre [Inhabited α] {l : List α} : ∀ {k : Nat}, k ≤ l.length → (∀ j, 0 < j → j < k → ¬ l.getD j default = l.getD (j - 1) default) → cmp1 (l.take k) = l.take k
  | 0, _, _ => rfl
  | 1, hk, _ => by
    rw [take_snoc (by omega)]
    simp [cmp1, cmpF]
  | k + 2, hk, h => by
    rw [cmp1_step (by omega) (by omega), cmp1_pre (by omega) (fun j h1 h2 => h j h1 (by omega)), if_neg (fun e => h (k + 1) (by omega) (by omega) e.symm), ← take_snoc (by omega)]
theorem cmp1_sub : ∀ (l : List α) (p : Option α), ∀ x ∈ cmpF p l, x ∈ l
  | [], _, x, h => by simp [cmpF] at h
  | y :: l, p, x, h => by
    simp only [cmpF] at h
    split at h
    · exact List.mem_cons_of_mem _ (cmp1_sub l p x h)
    · rcases List.mem_cons.1 h with rfl | h
      · exact List.mem_cons_self
      · exact List.mem_cons_of_mem _ (cmp1_sub l _ x h)
theorem cmpF_mem : ∀ (l : List α) (p : Option α), ∀ x ∈ l, p = some x ∨ x ∈ cmpF p l
  | y :: l, p, x, h => by
    simp only [cmpF]
    split
    · rename_i hp
      rcases List.mem_cons.1 h with rfl | h
      · exact .inl hp
      · exact cmpF_mem l p x h
    · rcases List.mem_cons.1 h with rfl | h
      · exact .inr List.mem_cons_self
      · rcases cmpF_mem l (some y) x h with h | h
        · simp only [Option.some.injEq] at h
          subst h
          exact .inr List.mem_cons_self
        · exact .inr (List.mem_cons_of_mem _ h)
theorem mem_cmp1 {l : List α} {x : α} : x ∈ cmp1 l ↔ x ∈ l := ⟨cmp1_sub l none x, fun h => by
  rcases cmpF_mem l none x h with h | h
  · cases h
  · exact h⟩
end
section
variable [Inhabited α]
theorem getD_set_eq {l : List α} {p : Nat} {v : α} (hp : p < l.length) : (l.set p v).getD p default = v := by simp [List.getD, hp]
theorem getD_set_ne' {l : List α} {p j : Nat} {v : α} (h : j ≠ p) : (l.set p v).getD j default = l.getD j default := by
  simp only [List.getD, List.getElem?_set_ne (Ne.symm h)]
theorem co_set1 {wr wr' : Bool} {n p k : Nat} {e : TypeId} {c : α → Nat → PV} {l : List α} {v : α} {x : PV} (hw : wr' = true → wr = true) (hn : n = l.length) (hp : k = p) (hk : p < l.length) (hx : x = c v 0) :
    CoO (.arr wr 1 e n (setEl (lf c l) k 0 [x])) (.arr wr' 1 e n (lf c (l.set p v))) := by
  subst hp hx hn
  refine ⟨hw, rfl, rfl, rfl, fun i j hi hj => CoP.of_eq ?_⟩
  obtain rfl : j = 0 := by omega
  unfold setEl lf
  by_cases h : i = k
  · subst h
    rw [if_pos ⟨rfl, by omega, by simp⟩, getD_set_eq hk]
    rfl
  · rw [if_neg (by omega), getD_set_ne' h]
theorem co_setE {wr wr' : Bool} {n p k q d : Nat} {e : TypeId} {c : α → Nat → PV} {l l' : List α} (hw : wr' = true → wr = true) (hn : n = l.length) (hp : k = p) (hk : p < l.length) (hd : d = q) :
    CoO (.arr wr 1 e n (setEl (lf c l) k 0 [lf c l' d 0])) (.arr wr' 1 e n (lf c (l.set p (l'.getD q default)))) := co_set1 hw hn hp hk (by rw [hd]; rfl)
theorem co_cutZ {n m a : Nat} {cl : Bool} {c : α → Nat → PV} {l l' : List α} {z : List Value} {p : Option Int} {h : Option Int} (hn : less (upTo n h) p = l'.length) (hp : p = none) (ha : l'.length ≤ a) (hl : l' = l.take l'.length) :
    CoP (.sl (less (upTo n h) p) 1 cl (from_ (setZ (lf c l) a m z) p)) (psl 1 c l') := by
  subst hp
  refine CoP.sl hn.symm (.inl rfl) (fun h => by cases h) fun i j hi hj => CoP.of_eq ?_
  rw [hn] at hi
  show setZ (lf c l) a m z i j = lf c l' i j
  unfold setZ
  rw [if_neg (by omega)]
  simp only [lf, List.getD]
  have e : l'[i]? = l[i]? := by rw [hl, List.getElem?_take, if_pos hi]
  rw [e]
end
abbrev sC : AS → Nat → PV := fun s _ => asC s
structure CpI (l : List AS) (k p q : Nat) (m : List AS) : Prop where
  len : m.length = l.length
  kq : k < q
  pq : p < q
  ql : q ≤ l.length
  pre : m.take p = cmp1 (l.take q)
  high : ∀ j, q - 1 ≤ j → m.getD j default = l.getD j default
theorem CpI.start {l : List AS} {k : Nat} (h1 : 1 ≤ k) (hk : k < l.length) (h : ∀ j, 0 < j → j < k → ¬ l.getD j default = l.getD (j - 1) default) (hd : l.getD k default = l.getD (k - 1) default) : CpI l k k (k + 1) l :=
  ⟨rfl, by omega, by omega, by omega, by rw [cmp1_step (by omega) hk, if_pos hd.symm, List.append_nil, cmp1_pre (by omega) h], fun _ _ => rfl⟩
theorem CpI.skip {l : List AS} {k p q : Nat} {m : List AS} (h : CpI l k p q m) (hq : q < l.length) (he : m.getD q default = m.getD (q - 1) default) : CpI l k p (q + 1) m := by
  have hk := h.kq
  refine ⟨h.len, by omega, by have := h.pq; omega, hq, ?_, fun j hj => h.high j (by omega)⟩
  rw [h.high q (by omega), h.high (q - 1) (by omega)] at he
  rw [cmp1_step (by omega) hq, if_pos he.symm, List.append_nil, h.pre]
theorem CpI.keep {l : List AS} {k p q : Nat} {m : List AS} (h : CpI l k p q m) (hq : q < l.length) (he : ¬ m.getD q default = m.getD (q - 1) default) : CpI l k (p + 1) (q + 1) (m.set p (m.getD q default)) := by
  have hk := h.kq
  have hp := h.pq
  have hl := h.len
  refine ⟨by simp [hl], by omega, by omega, hq, ?_, fun j hj => by rw [getD_set_ne' (by omega)]; exact h.high j (by omega)⟩
  have e := h.high q (by omega)
  rw [e, h.high (q - 1) (by omega)] at he
  rw [cmp1_step (by omega) hq, if_neg (fun e => he e.symm), ← h.pre, take_snoc (by simp [hl]; omega), getD_set_eq (by omega), e]
  congr 1
  rw [List.take_set, List.set_eq_of_length_le (by simp; omega)]
theorem eq_of_i {l : List AS} {a b a' b' : Nat} (h : asI (l.getD a' default) = asI (l.getD b' default)) (ha : a' = a) (hb : b' = b) : l.getD a default = l.getD b default := by subst ha hb; exact asI_inj.1 h
theorem ne_of_i {l : List AS} {a b a' b' : Nat} (h : ¬ asI (l.getD a' default) = asI (l.getD b' default)) (ha : a' = a) (hb : b' = b) : ¬ l.getD a default = l.getD b default := by subst ha hb; exact fun e => h (congrArg asI e)
theorem co_all1 {l : List AS} {k : Nat} (hk : l.length ≤ k) (h : ∀ j, 0 < j → j < k → ¬ l.getD j default = l.getD (j - 1) default) : CoP (.sl l.length 1 false (lf sC l)) (asl (cmp1 l)) := by
  have := cmp1_pre (Nat.le_refl l.length) fun j h1 h2 => h j h1 (by omega)
  rw [List.take_length] at this
  rw [this]
  exact CoP.refl _
theorem co_cutC {l m : List AS} {k p q n a d : Nat} {cl : Bool} {z : List Value} (hC : CpI l k p q m) (hq : ¬ q < l.length) (ha : p ≤ a) : CoP (.sl (less (upTo n (some (p : Int))) none) 1 cl (from_ (setZ (lf sC m) a d z) none)) (asl (cmp1 l)) := by
  have e := hC.pre
  have h1 := hC.ql
  have h2 := hC.len
  have h3 := hC.pq
  rw [show q = l.length by omega, List.take_length] at e
  have el : (cmp1 l).length = p := by rw [← e]; simp; omega
  exact co_cutZ (by rw [el]; rfl) rfl (by omega) (by rw [el, e])
end Go.Hx
end
section
namespace Go.Hx
open Go.Proofs
set_option maxRecDepth 100000
end Go.Hx
end
section
namespace Go.Hx
section
variable {α : Type} [Inhabited α] {p : α → Bool} {l : List α}
theorem idx_none (h : idx p l = -1) : ∀ j, j < l.length → p (l.getD j default) = false := fun j hj => by
  cases hc : p (l.getD j default) with
  | false => rfl
  | true =>
    exfalso
    have hx : ∃ x ∈ l, p x = true := ⟨l[j], List.getElem_mem hj, by simpa [List.getD, hj] using hc⟩
    unfold idx at h
    cases hf : l.findIdx? p with
    | none =>
      rw [List.findIdx?_eq_none_iff] at hf
      obtain ⟨x, hx, hp⟩ := hx
      rw [hf x hx] at hp
      cases hp
    | some i => rw [hf] at h; simp only at h; omega
theorem idx_some (h : ¬ idx p l = -1) : ∃ i : Nat, idx p l = i ∧ i < l.length ∧ p (l.getD i default) = true ∧ ∀ j, j < i → p (l.getD j default) = false := by
  unfold idx at h ⊢
  cases hf : l.findIdx? p with
  | none => rw [hf] at h; exact absurd rfl h
  | some i =>
    obtain ⟨h1, h2, h3⟩ := List.findIdx?_eq_some_iff_getElem.1 hf
    refine ⟨i, rfl, h1, by simpa [List.getD, h1] using h2, fun j hj => ?_⟩
    have := h3 j hj
    simp only [List.getD, List.getElem?_eq_getElem (Nat.lt_trans hj h1), Option.getD_some]
    simpa using this
theorem idx_ge : (decide (0 ≤ idx p l)) = l.any p := by
  unfold idx
  cases hf : l.findIdx? p with
  | none =>
    rw [List.findIdx?_eq_none_iff] at hf
    have : l.any p = false := by
      rw [List.any_eq_false]
      intro x hx
      rw [hf x hx]
      exact Bool.false_ne_true
    rw [this]; rfl
  | some i =>
    obtain ⟨h1, h2, _⟩ := List.findIdx?_eq_some_iff_getElem.1 hf
    have : l.any p = true := List.any_eq_true.2 ⟨l[i], List.getElem_mem h1, h2⟩
    rw [this]
    exact decide_eq_true (Int.natCast_nonneg i)
theorem filter_pre : ∀ {k : Nat}, k ≤ l.length → (∀ j, j < k → p (l.getD j default) = false) → (l.take k).filter (fun x => !p x) = l.take k
  | 0, _, _ => by simp
  | k + 1, hk, h => by rw [take_snoc (by omega), List.filter_append, filter_pre (by omega) fun j hj => h j (by omega)]; simp only [List.filter_cons, h k (by omega), Bool.not_false, if_true, List.filter_nil]
structure DfI (p : α → Bool) (l : List α) (k q : Nat) (m : List α) : Prop where
  len : m.length = l.length
  kq : k < q
  ql : q ≤ l.length
  pre : m.take k = (l.take q).filter fun x => !p x
  high : ∀ j, q ≤ j → m.getD j default = l.getD j default
theorem DfI.start {k : Nat} (hk : k < l.length) (h1 : p (l.getD k default) = true) (h : ∀ j, j < k → p (l.getD j default) = false) : DfI p l k (k + 1) l :=
  ⟨rfl, by omega, hk, by rw [take_snoc hk, List.filter_append, filter_pre (by omega) h]; simp only [List.filter_cons, h1, Bool.not_true, List.filter_nil, Bool.false_eq_true, if_false, List.append_nil], fun _ _ => rfl⟩
theorem DfI.skip {k q : Nat} {m : List α} (h : DfI p l k q m) (hq : q < l.length) (hp : p (m.getD q default) = true) : DfI p l k (q + 1) m := by
  rw [h.high q (Nat.le_refl _)] at hp
  exact ⟨h.len, by have := h.kq; omega, hq, by rw [take_snoc hq, List.filter_append, ← h.pre]; simp only [List.filter_cons, hp, Bool.not_true, List.filter_nil, Bool.false_eq_true, if_false, List.append_nil], fun j hj => h.high j (by omega)⟩
theorem DfI.keep {k q : Nat} {m : List α} (h : DfI p l k q m) (hq : q < l.length) (hp : p (m.getD q default) = false) : DfI p l (k + 1) (q + 1) (m.set k (m.getD q default)) := by
  have e := h.high q (Nat.le_refl _)
  rw [e] at hp ⊢
  have hk := h.kq
  have hl := h.len
  refine ⟨by simp [hl], by omega, hq, ?_, fun j hj => by rw [getD_set_ne' (by omega)]; exact h.high j (by omega)⟩
  rw [take_snoc (by simp [hl]; omega), getD_set_eq (by omega), take_snoc hq, List.filter_append, ← h.pre]
  simp only [List.filter_cons, hp, Bool.not_false, if_true, List.filter_nil]
  congr 1
  rw [List.take_set, List.set_eq_of_length_le (by simp; omega)]
end
section
variable {p : AS → Bool} {l : List AS}
theorem co_allF (h : ∀ j, j < l.length → p (l.getD j default) = false) : CoP (.sl l.length 1 false (lf sC l)) (asl (l.filter fun x => !p x)) := by
  have := filter_pre (Nat.le_refl l.length) h
  rw [List.take_length] at this
  rw [this]
  exact CoP.refl _
theorem co_cutF {m : List AS} {k q n a d : Nat} {cl : Bool} {z : List Value} (hC : DfI p l k q m) (hq : ¬ q < l.length) (ha : k ≤ a) : CoP (.sl (less (upTo n (some (k : Int))) none) 1 cl (from_ (setZ (lf sC m) a d z) none)) (asl (l.filter fun x => !p x)) := by
  have e := hC.pre
  have h1 := hC.ql
  have h2 := hC.len
  have h3 := hC.kq
  rw [show q = l.length by omega, List.take_length] at e
  have el : (l.filter fun x => !p x).length = k := by rw [← e]; simp; omega
  exact co_cutZ (by rw [el]; rfl) rfl (by omega) (by rw [el, e])
end
theorem asI_eq {a b : AS} : decide (asI a = asI b) = decide (a = b) := decide_eq_decide.2 asI_inj
instance : DecidableEq Fd := fun a b => decidable_of_iff (a.lhs = b.lhs ∧ a.rhs = b.rhs) Fd.eq_iff.symm
end Go.Hx
end
section
namespace Go.Hx
open Go.Proofs
set_option maxRecDepth 100000
theorem good20 : goodFn Tryd.prog 20 := ⟨Tryd.f20, Tryd.func20, by kernel_rfl, by kernel_rfl⟩
theorem clone75 (n : Nat) (c : Bool) (f : Nat → Nat → PV) (hn : n ≤ 35184372088832) :
    HFun Tryd.prog 20 [.one (.p (.sl n 1 c f))] [] (.v (.one (.ref 0 n))) [(0, .arr true 1 34 n f)] [] := by
  refine hfun_of (nt := 8) Trydok Tryd.func20 rfl rfl (Nat.le_of_ble_eq_true rfl) rfl ?_; refine hw_seq ?_; refine hw_region (E := TrydE) Trydok ?_; refine rg_quiet true rfl rfl rfl rfl rfl trivial ?_; refine rg_nil ?_
  show HW _ _ _ _ _
  refine hw_join (ι := Bool) (fun c => ⟨[(0, some (oneP (.sl n 1 c f)))], []⟩) (fun _ => True) ?_ fun c _ => ?_
  · rcases Nat.eq_zero_or_pos n with hz | h0
    · subst hz
      refine hw_exact' 0 rfl fun ad cap hcap => ?_
      refine hw_seq ?_; refine hw_region (E := TrydE) Trydok ?_; (iterate 2 refine rg_quiet true rfl rfl rfl rfl rfl trivial ?_); refine rg_nil ?_; show HW _ _ _ _ _; refine hw_cond ad.isNone rfl (fun hc => ?_) (fun hc => ?_)
      · refine hw_seq ?_
        refine hw_region (E := TrydE) Trydok ?_; refine rg_quiet true rfl rfl rfl rfl rfl trivial ?_; refine rg_nil ?_; show HW _ _ _ _ _
        refine hw_adopt 2 0 true 1 34 f (by decide) rfl (CoP.sl rfl (.inr rfl) (fun h => h) fun i j hi _ => absurd hi (Nat.not_lt_zero i)) (.inr rfl) rfl ?_; refine hw_ret ?_; refine ⟨.inr rfl, ?_⟩
        exact ⟨_, _, rfl, trivial, CoR.refl _, ⟨⟨_, rfl, CoO.refl _⟩, trivial⟩⟩
      · refine hw_skip ?_
        exact ⟨false, trivial, ⟨⟨_, rfl, CoP.raw_sl hcap⟩, trivial⟩, trivial⟩
    · refine hw_seq ?_
      refine hw_region (E := TrydE) Trydok ?_; refine rg_quiet true rfl rfl rfl rfl rfl trivial ?_; refine rg_quiet true rfl rfl rfl rfl rfl h0 ?_; refine rg_nil ?_; show HW _ _ _ _ _
      refine hw_cond false rfl (fun hc => by cases hc) (fun hc => ?_); refine hw_skip ?_
      exact ⟨c, trivial, ⟨⟨_, rfl, CoR.refl _⟩, trivial⟩, trivial⟩
  · refine hw_seq ?_
    refine hw_region (E := TrydE) Trydok ?_; refine rg_make 0 rfl rfl rfl rfl rfl rfl trivial ?_; refine rg_quiet true rfl rfl rfl rfl rfl trivial ?_
    refine rg_app 0 true rfl rfl rfl rfl rfl rfl ⟨trivial, rfl, rfl, rfl, .inl rfl, by show 0 + n ≤ 9223372036854775807; omega, by show (0 + n) * 4 ≤ 140737488355328; omega, fun _ => .inl rfl⟩ ?_
    refine rg_quiet true rfl rfl rfl rfl rfl trivial ?_; refine rg_nil ?_; show HW _ _ _ _ _; refine hw_ret ?_; refine ⟨.inr rfl, ?_⟩
    refine ⟨_, _, rfl, trivial, CoR.of_eq (by show HR.v (.one (.ref 0 (0 + n))) = _; rw [Nat.zero_add]), ⟨⟨_, rfl, ?_⟩, trivial⟩⟩
    exact ⟨fun h => h, rfl, rfl, (Nat.zero_add n).symm, fun i j _ _ => CoP.of_eq (by simp [appF])⟩
theorem cloneP75 (n : Nat) (c : Bool) (f : Nat → Nat → PV) (hn : n ≤ 35184372088832) : HPure Tryd.prog 20 [.one (.sl n 1 c f)] (.v (.one (.sl n 1 false f))) :=
  HFun.pure (args := [.one (.sl n 1 c f)]) (l := [.one (.ref 0 n)]) (clone75 n c f hn) rfl ⟨rfl, trivial⟩
end Go.Hx
end
section
namespace Go.Hx
def hasI (s : AS) (i : Int) : Bool := decide (0 ≤ i ∧ i < 32) && s.getLsbD i.toNat
theorem hasI_nat {s : AS} {i : Nat} (h : i < 32) : hasI s i = s.getLsbD i := by
  unfold hasI
  rw [decide_eq_true (by omega)]
  simp
theorem has_v {s : AS} {i : Int} (h0 : 0 ≤ i) (h1 : i < 32) : decide (bitV .and .u32 ((asI s).fdiv (2 ^ (min i.toNat 32))) 1 = 1) = hasI s i := by
  unfold hasI
  rw [bShr, show (1 : Int) = asI 1 from rfl, bAnd, decide_eq_true (show 0 ≤ i ∧ i < 32 from ⟨h0, h1⟩), Bool.true_and]
  have e : asI (s >>> i.toNat &&& 1) = asI 1 ↔ s.getLsbD i.toNat = true := by
    rw [asI_inj]
    constructor
    · intro h
      have := congrArg (fun x : AS => x.getLsbD 0) h
      simpa using this
    · intro h
      apply BitVec.eq_of_getLsbD_eq
      intro k hk
      have h1 : (1 : AS).getLsbD k = decide (k = 0) := by have := bit_one 0 k hk; simpa using this
      rw [BitVec.getLsbD_and, BitVec.getLsbD_ushiftRight, h1]
      by_cases hk0 : k = 0
      · subst hk0; simp [h]
      · simp [hk0]
  cases hb : s.getLsbD i.toNat with
  | true => exact decide_eq_true (e.2 hb)
  | false => exact decide_eq_false fun h => by rw [e.1 h] at hb; cases hb
theorem hasI_f {s : AS} {i : Int} (h : ¬ (0 ≤ i ∧ i < 32)) : hasI s i = false := by
  unfold hasI
  rw [decide_eq_false h]
  rfl
theorem fullS_ofNat {n : Nat} (h : n ≤ 32) : fullS n = BitVec.ofNat 32 (2 ^ n - 1) := by
  apply BitVec.eq_of_getLsbD_eq
  intro k hk
  rw [fullS_bit n k hk, BitVec.getLsbD_ofNat, Nat.testBit_two_pow_sub_one]
  simp [hk]
theorem fullS_toNat {n : Nat} (h : n ≤ 32) : (fullS n).toNat = 2 ^ n - 1 := by
  have h2 : 2 ^ n ≤ 2 ^ 32 := Nat.pow_le_pow_right (by omega) h
  have h3 : 0 < 2 ^ n := Nat.two_pow_pos n
  rw [fullS_ofNat h, BitVec.toNat_ofNat, Nat.mod_eq_of_lt (by omega)]
theorem vErr_ok {n : Int} {l : List Fd} (h : vErr n l = 0) : 0 ≤ n ∧ n ≤ 16 ∧ l.length ≤ 64 ∧ l.all (inU n) = true := by
  unfold vErr at h
  split at h
  · cases h
  · split at h
    · cases h
    · split at h
      · rename_i h1 h2 h3
        exact ⟨by omega, by omega, by omega, h3⟩
      · cases h
theorem full_v {n : Int} (h0 : 0 ≤ n) (h1 : n ≤ 16) : IntKind.wrap .u32 (1 * 2 ^ (min n.toNat 32)) - 1 = asI (fullI n) := by
  have h2 : 2 ^ n.toNat ≤ 2 ^ 16 := Nat.pow_le_pow_right (by omega) (by omega)
  have h3 : 0 < 2 ^ n.toNat := Nat.two_pow_pos _
  rw [show IntKind.wrap .u32 (1 * 2 ^ (min n.toNat 32)) = asI ((1 : AS) <<< n.toNat) from bShl 1 n.toNat]
  unfold fullI asI
  rw [Nat.min_eq_left (by omega), fullS_toNat (by omega), BitVec.toNat_shiftLeft, Nat.shiftLeft_eq]
  rw [show (1 : AS).toNat = 1 from rfl, Nat.one_mul, Nat.mod_eq_of_lt (by omega)]
  omega
theorem shr_v {s : AS} {n : Int} (h0 : 0 ≤ n) (h1 : n ≤ 16) : (asI s).fdiv (2 ^ (min n.toNat 32)) = 0 ↔ sub s (fullI n) := by
  rw [bShr, show (0 : Int) = asI 0 from rfl, asI_inj]
  unfold fullI
  rw [Nat.min_eq_left (by omega)]
  exact (within_iff (by omega)).symm
theorem full_pre {n : Int} (h0 : 0 ≤ n) (h1 : n ≤ 16) : 0 ≤ IntKind.wrap .u32 (1 * 2 ^ (min n.toNat 32)) - 1 := by rw [full_v h0 h1]; exact asI_nn _
theorem full_pre2 {n : Int} (h0 : 0 ≤ n) (h1 : n ≤ 16) : IntKind.wrap .u32 (1 * 2 ^ (min n.toNat 32)) - 1 ≤ 4294967295 := by rw [full_v h0 h1]; have := asI_lt (fullI n); omega
theorem asl_same {a b : List AS} (h : a.length = b.length) (hI : ∀ j, j < a.length → decide (a.getD j default = b.getD j default) = true) : a = b := list_eq h fun j hj => of_decide_eq_true (hI j hj)
theorem fdl_same {a b : List Fd} (h : a.length = b.length) (hI : ∀ j, j < a.length → decide (a.getD j default = b.getD j default) = true) : a = b := list_eq h fun j hj => of_decide_eq_true (hI j hj)
def skey (n : Int) (l : List Fd) (s : AS) : Bool := decide (vErr n l = 0 ∧ sub s (fullI n) ∧ clo l s = fullI n)
section
variable {n : Int} {l : List Fd} {s : AS}
theorem sk_f1 (h : ¬ vErr n l = 0) : skey n l s = false := decide_eq_false fun e => h e.1
theorem sk_t (h : vErr n l = 0) (h2 : (asI s).fdiv (2 ^ (min n.toNat 32)) = 0) : decide (asI (clo l s) = asI (fullI n)) = skey n l s := by
  have hv := vErr_ok h
  have h3 := (shr_v hv.1 hv.2.1).1 h2
  exact decide_eq_decide.2 ⟨fun e => ⟨h, h3, asI_inj.1 e⟩, fun e => congrArg asI e.2.2⟩
theorem sk_f2 (h : vErr n l = 0) (h2 : ¬ (asI s).fdiv (2 ^ (min n.toNat 32)) = 0) : skey n l s = false := by
  have hv := vErr_ok h
  exact decide_eq_false fun e => h2 ((shr_v hv.1 hv.2.1).2 e.2.1)
theorem sk_g (h2 : ¬ bitV .andNot .u32 (asI s) (asI (fullI n)) = 0) : skey n l s = false := decide_eq_false fun e => h2 (sub_iff_not.2 e.2.1)
theorem sk_u (h : vErr n l = 0) (h2 : sub s (fullI n)) : decide (asI (clo l s) = asI (fullI n)) = skey n l s := decide_eq_decide.2 ⟨fun e => ⟨h, h2, asI_inj.1 e⟩, fun e => congrArg asI e.2.2⟩
end
def errS (n : Int) (l : List Fd) (m : Int) : Int := if vErr n l = 0 then (if m < n then 3 else 0) else vErr n l
structure Dp where
  l : BitVec 8
  r : BitVec 8
deriving Inhabited
def Dp.c (d : Dp) : Nat → PV
  | 0 => .raw (.int .u8 (d.l.toNat : Int))
  | 1 => .raw (.int .u8 (d.r.toNat : Int))
  | _ => .any
abbrev dpl (l : List Dp) : PV := psl 2 Dp.c l
def Dp.fd (n : Int) (d : Dp) : Fd := ⟨d.l.setWidth 32 &&& fullI n, d.r.setWidth 32 &&& fullI n⟩
theorem u8_and (b : BitVec 8) (t : AS) : bitV .and .u32 (b.toNat : Int) (asI t) = asI (b.setWidth 32 &&& t) := by
  have h := b.isLt
  have e : asI (b.setWidth 32) = (b.toNat : Int) := by
    unfold asI
    rw [BitVec.toNat_setWidth, Nat.mod_eq_of_lt (by omega)]
  rw [← bAnd, e]
end Go.Hx
end
section
namespace Go.Hx
def bsz (s : AS) : Nat := (List.range 32).countP fun i => s.getLsbD i
def bef (a b : AS) : Bool := decide (bsz a < bsz b) || (decide (bsz a = bsz b) && decide (a.toNat < b.toNat))
theorem bef_irr (a : AS) : bef a a = false := by simp [bef]
theorem bef_iff {a b : AS} : bef a b = true ↔ bsz a < bsz b ∨ (bsz a = bsz b ∧ a.toNat < b.toNat) := by simp [bef]
theorem bef_trans {a b c : AS} (h : bef a b = true) (k : bef b c = true) : bef a c = true := by
  rw [bef_iff] at *
  omega
theorem bef_tri {a b : AS} (h : a ≠ b) : bef a b = true ∨ bef b a = true := by
  have hn : a.toNat ≠ b.toNat := fun e => h (BitVec.eq_of_toNat_eq e)
  rw [bef_iff, bef_iff]
  omega
theorem bef_asym {a b : AS} (h : bef a b = true) : bef b a = false := by
  rw [Bool.eq_false_iff]
  intro k
  have := bef_trans h k
  rw [bef_irr] at this
  cases this
def Ordd (l : List AS) : Prop := l.Pairwise fun a b => bef a b = true
theorem ordd_unique : ∀ {l k : List AS}, Ordd l → Ordd k → (∀ x, x ∈ l ↔ x ∈ k) → l = k
  | [], [], _, _, _ => rfl
  | [], y :: k, _, _, h => absurd ((h y).2 (List.mem_cons_self ..)) (by simp)
  | x :: l, [], _, _, h => absurd ((h x).1 (List.mem_cons_self ..)) (by simp)
  | x :: l, y :: k, hl, hk, h => by
    obtain ⟨h1, h2⟩ := List.pairwise_cons.1 hl
    obtain ⟨k1, k2⟩ := List.pairwise_cons.1 hk
    have e : x = y := by
      rcases List.mem_cons.1 ((h x).1 (List.mem_cons_self ..)) with e | hx
      · exact e
      · rcases List.mem_cons.1 ((h y).2 (List.mem_cons_self ..)) with e | hy
        · exact e.symm
        · have := bef_asym (k1 x hx)
          rw [h1 y hy] at this
          cases this
    subst e
    congr 1
    refine ordd_unique h2 k2 fun z => ?_
    constructor
    · intro hz
      rcases List.mem_cons.1 ((h z).1 (List.mem_cons_of_mem _ hz)) with e | hz'
      · subst e
        have := h1 z hz
        rw [bef_irr] at this
        cases this
      · exact hz'
    · intro hz
      rcases List.mem_cons.1 ((h z).2 (List.mem_cons_of_mem _ hz)) with e | hz'
      · subst e
        have := k1 z hz
        rw [bef_irr] at this
        cases this
      · exact hz'
def insO (x : AS) : List AS → List AS
  | [] => [x]
  | y :: l => if x = y then y :: l else if bef x y = true then x :: y :: l else y :: insO x l
theorem mem_insO {x z : AS} : ∀ {l : List AS}, z ∈ insO x l ↔ z = x ∨ z ∈ l
  | [] => by simp [insO]
  | y :: l => by
    unfold insO
    split
    · rename_i e
      subst e
      simp
    · split
      · simp
      · rw [List.mem_cons, mem_insO, List.mem_cons]
        constructor
        · rintro (h | h | h) <;> simp [h]
        · rintro (h | h | h) <;> simp [h]
theorem ordd_insO {x : AS} : ∀ {l : List AS}, Ordd l → Ordd (insO x l)
  | [], _ => by simp [insO, Ordd]
  | y :: l, h => by
    obtain ⟨h1, h2⟩ := List.pairwise_cons.1 h
    unfold insO
    split
    · exact h
    · split
      · rename_i hxy
        refine List.pairwise_cons.2 ⟨fun z hz => ?_, h⟩
        rcases List.mem_cons.1 hz with rfl | hz
        · exact hxy
        · exact bef_trans hxy (h1 z hz)
      · rename_i hne hxy
        refine List.pairwise_cons.2 ⟨fun z hz => ?_, ordd_insO h2⟩
        rcases mem_insO.1 hz with rfl | hz
        · exact (bef_tri hne).resolve_left hxy
        · exact h1 z hz
def ord (l : List AS) : List AS := l.foldl (fun o x => insO x o) []
theorem ord_aux : ∀ {l o : List AS}, Ordd o → Ordd (l.foldl (fun o x => insO x o) o) ∧ ∀ z, z ∈ l.foldl (fun o x => insO x o) o ↔ z ∈ o ∨ z ∈ l
  | [], o, h => ⟨h, fun z => by simp⟩
  | x :: l, o, h => by
    obtain ⟨h1, h2⟩ := ord_aux (l := l) (ordd_insO (x := x) h)
    refine ⟨h1, fun z => ?_⟩
    show z ∈ l.foldl (fun o x => insO x o) (insO x o) ↔ _
    rw [h2 z, mem_insO, List.mem_cons]
    constructor
    · rintro ((h | h) | h) <;> simp [h]
    · rintro (h | h | h) <;> simp [h]
theorem ordd_ord (l : List AS) : Ordd (ord l) := (ord_aux (o := []) List.Pairwise.nil).1
theorem mem_ord {l : List AS} {z : AS} : z ∈ ord l ↔ z ∈ l := by
  show z ∈ l.foldl (fun o x => insO x o) [] ↔ _
  rw [(ord_aux (l := l) (o := []) List.Pairwise.nil).2 z]
  simp
theorem ord_eq {l k : List AS} (hk : Ordd k) (h : ∀ z, z ∈ k ↔ z ∈ l) : k = ord l := ordd_unique hk (ordd_ord l) fun z => by rw [h z, mem_ord]
end Go.Hx
end
