/- A part of the proof: lemmas for the theorem of this claim, merged by a program of ours out of X12, Ch9, X13, Ch10. -/
import Derived.Test.YtididbpiikfaiaaDoorE25
set_option linter.all false
section
namespace Go.Hx
open Go.Proofs
set_option maxRecDepth 100000
theorem good49 : goodFn Tryd.prog 49 := ⟨Tryd.f49, Tryd.func49, by kernel_rfl, by kernel_rfl⟩
theorem cNext (n : Int) (l : List Rw) (p m : List Fd) (hT : tok n l = true) : HPure Tryd.prog 49 [pT n l, pP (fdl p), pP (fdl m)] (prOf [St.pc ((nextE l p m).getD (false, 0, 0, 0)), pB (nextE l p m).isSome]) := by
  refine hpure_of (nt := 132) Trydok Tryd.func49 rfl rfl (Nat.le_of_ble_eq_true rfl) ?_; refine hw_seq ?_
  obtain ⟨hn0, hn16, hl256, hrow⟩ := tok_get hT
  refine hw_bt 1 rfl fun hn1 => ?_
  refine hw_bt 2 rfl fun hn2 => ?_
  refine hw_region (E := TrydE) Trydok ?_; refine rm 0 rfl rfl rfl rfl rfl rfl ?_; refine rm 1 rfl rfl rfl rfl rfl rfl ?_; refine rq rfl rfl rfl rfl rfl ?_; refine rg_nil ?_; show HW _ _ _ _ _; (iterate 2 refine hw_seq ?_)
  refine hw_region (E := TrydE) Trydok ?_; (iterate 3 refine rq rfl rfl rfl rfl rfl ?_); refine rg_nil ?_; show HW _ _ _ _ _; refine hw_block ?_
  refine hw_loopK (ι := Nat) ⟨[(2, some _), (3, some _), (6, some _), (16, some _), (17, some _)], [(0, some _), (1, some _)]⟩ ⟨⟨⟨_, rfl, CoR.refl _⟩, ⟨_, rfl, CoR.refl _⟩, ⟨_, rfl, CoR.refl _⟩, ⟨_, rfl, CoR.refl _⟩, ⟨_, rfl, CoR.refl _⟩, trivial⟩, ⟨⟨_, rfl, CoO.refl _⟩, ⟨_, rfl, CoO.refl _⟩, trivial⟩⟩ (fun i => ⟨[(18, some (vI i))], []⟩) (fun i => i ≤ p.length ∧ (∀ i', i' < i → ∀ a', a' < l.length → ∀ b', b' < l.length → stepF l (p.getD i' default) a' b' = false)) (fun i => p.length - i) (0) (⟨Nat.zero_le _, all_zero⟩) ⟨⟨⟨_, rfl, (by first | exact CoR.refl _ | exact coi (by omega) | exact cob (by simp_all))⟩, trivial⟩, trivial⟩ ?_
  rintro i ⟨hi, hI⟩
  refine hw_seq ?_; refine hw_region (E := TrydE) Trydok ?_; refine rq rfl rfl rfl rfl rfl ?_; refine rg_nil ?_; show HW _ _ _ _ _; refine hw_seq ?_; refine hw_cond _ rfl (fun r0 => ?_) (fun r0 => ?_)
  · skip
    have h0 := r0
    have h0 := of_decide_eq_true h0
    try simp only [Int.toNat_natCast] at h0
    refine hw_skip ?_; show HW _ _ _ _ _; refine hw_seq ?_; refine hw_block ?_; refine hw_seq ?_; refine hw_region (E := TrydE) Trydok ?_; (iterate 3 refine rq rfl rfl rfl rfl rfl ?_); refine rm 2 rfl rfl rfl rfl rfl rfl ?_
    refine rq rfl rfl rfl rfl rfl ?_; refine rs rfl rfl rfl rfl rfl ?_; refine rg_nil ?_; show HW _ _ _ _ _; refine hw_seq ?_; refine hw_region (E := TrydE) Trydok ?_; (iterate 4 refine rq rfl rfl rfl rfl rfl ?_); refine rg_nil ?_
    show HW _ _ _ _ _; refine hw_block ?_
    refine hw_loopK (ι := Nat) ⟨[(2, some _), (3, some _), (6, some _), (8, some _), (9, some _), (16, some _), (17, some _), (18, some _), (25, some _)], [(0, some _), (1, some _), (2, some _)]⟩ ⟨⟨⟨_, rfl, CoR.refl _⟩, ⟨_, rfl, CoR.refl _⟩, ⟨_, rfl, CoR.refl _⟩, ⟨_, rfl, CoR.refl _⟩, ⟨_, rfl, CoR.refl _⟩, ⟨_, rfl, CoR.refl _⟩, ⟨_, rfl, CoR.refl _⟩, ⟨_, rfl, CoR.refl _⟩, ⟨_, rfl, CoR.refl _⟩, trivial⟩, ⟨⟨_, rfl, CoO.refl _⟩, ⟨_, rfl, CoO.refl _⟩, ⟨_, rfl, CoO.refl _⟩, trivial⟩⟩ (fun a => ⟨[(26, some (vI a))], []⟩) (fun a => a ≤ l.length ∧ (∀ a', a' < a → ∀ b', b' < l.length → stepF l (p.getD i default) a' b' = false)) (fun a => l.length - a) (0) (⟨Nat.zero_le _, all_zero⟩) ⟨⟨⟨_, rfl, (by first | exact CoR.refl _ | exact coi (by omega) | exact cob (by simp_all))⟩, trivial⟩, trivial⟩ ?_
    rintro a ⟨ha, hA⟩
    refine hw_seq ?_; refine hw_region (E := TrydE) Trydok ?_; refine rq rfl rfl rfl rfl rfl ?_; refine rg_nil ?_; show HW _ _ _ _ _; refine hw_seq ?_; refine hw_cond _ rfl (fun r1 => ?_) (fun r1 => ?_)
    · skip
      have h1 := r1
      have h1 := of_decide_eq_true h1
      try simp only [Int.toNat_natCast] at h1
      refine hw_skip ?_; show HW _ _ _ _ _; refine hw_seq ?_; refine hw_block ?_; refine hw_seq ?_; refine hw_region (E := TrydE) Trydok ?_; (iterate 2 refine rq rfl rfl rfl rfl rfl ?_); refine rg_nil ?_; show HW _ _ _ _ _
      refine hw_seq ?_; refine hw_region (E := TrydE) Trydok ?_; (iterate 4 refine rq rfl rfl rfl rfl rfl ?_); refine rg_nil ?_; show HW _ _ _ _ _; refine hw_block ?_
      refine hw_loopK (ι := Nat) ⟨[(2, some _), (3, some _), (6, some _), (8, some _), (9, some _), (10, some _), (16, some _), (17, some _), (18, some _), (25, some _), (26, some _), (31, some _)], [(0, some _), (1, some _), (2, some _)]⟩ ⟨⟨⟨_, rfl, CoR.refl _⟩, ⟨_, rfl, CoR.refl _⟩, ⟨_, rfl, CoR.refl _⟩, ⟨_, rfl, CoR.refl _⟩, ⟨_, rfl, CoR.refl _⟩, ⟨_, rfl, CoR.refl _⟩, ⟨_, rfl, CoR.refl _⟩, ⟨_, rfl, CoR.refl _⟩, ⟨_, rfl, CoR.refl _⟩, ⟨_, rfl, CoR.refl _⟩, ⟨_, rfl, CoR.refl _⟩, ⟨_, rfl, CoR.refl _⟩, trivial⟩, ⟨⟨_, rfl, CoO.refl _⟩, ⟨_, rfl, CoO.refl _⟩, ⟨_, rfl, CoO.refl _⟩, trivial⟩⟩ (fun b => ⟨[(32, some (vI b))], []⟩) (fun b => b ≤ l.length ∧ (∀ b', b' < b → stepF l (p.getD i default) a b' = false)) (fun b => l.length - b) (0) (⟨Nat.zero_le _, all_zero⟩) ⟨⟨⟨_, rfl, (by first | exact CoR.refl _ | exact coi (by omega) | exact cob (by simp_all))⟩, trivial⟩, trivial⟩ ?_
      rintro b ⟨hb, hB⟩
      refine hw_seq ?_; refine hw_region (E := TrydE) Trydok ?_; refine rq rfl rfl rfl rfl rfl ?_; refine rg_nil ?_; show HW _ _ _ _ _; refine hw_seq ?_; refine hw_cond _ rfl (fun r2 => ?_) (fun r2 => ?_)
      · skip
        have h2 := r2
        have h2 := of_decide_eq_true h2
        try simp only [Int.toNat_natCast] at h2
        refine hw_skip ?_; show HW _ _ _ _ _; refine hw_seq ?_; refine hw_block ?_; refine hw_seq ?_; refine hw_region (E := TrydE) Trydok ?_; (iterate 2 refine rq rfl rfl rfl rfl rfl ?_); refine rg_nil ?_; show HW _ _ _ _ _
        refine hw_seq ?_; refine hw_draw (E := TrydE) Trydok Trydmixed [0, 1, 2, 3, 4, 5, 6, 7, 8, 9, 10, 11, 12, 13, 14, 15, 16, 17, 18, 19, 20, 21, 22, 23, 24, 25, 26, 27, 28] ?_; (iterate 12 refine rq rfl rfl rfl rfl rfl ?_)
        refine rc rfl rfl rfl rfl rfl rfl good65 (cAgree (l.getD a default) (l.getD b default) (p.getD i default).lhs (by rw [hrow _ (by omega), hrow _ (by omega)]) (by rw [hrow _ (by omega)]; omega)) (CoL.refl _) rfl rfl ?_
        refine rq rfl rfl rfl rfl rfl ?_; refine rsplit rfl rfl (fun r3 => ?_) (fun r3 => ?_)
        · skip
          have h3 := r3
          (iterate 12 refine rq rfl rfl rfl rfl (gtt r3) ?_)
          refine rc rfl rfl rfl rfl rfl rfl good65 (cAgree (l.getD a default) (l.getD b default) (p.getD i default).rhs (by rw [hrow _ (by omega), hrow _ (by omega)]) (by rw [hrow _ (by omega)]; omega)) (CoL.refl _) rfl (gtt r3) ?_
          refine rq rfl rfl rfl rfl (gtt r3) ?_; refine rq rfl rfl rfl rfl rfl ?_; refine rg_nil ?_; refine ⟨by kernel_rfl, ?_⟩; show HW _ _ _ _ _; refine hw_cond _ rfl (fun r4 => ?_) (fun r4 => ?_)
          · skip
            have h4 := r4
            have h4 := bif_t r3 h4
            have h4 := not_t h4
            refine hw_seq ?_; refine hw_region (E := TrydE) Trydok ?_; (iterate 4 refine rq rfl rfl rfl rfl rfl ?_); refine rs rfl rfl rfl rfl rfl ?_; refine rq rfl rfl rfl rfl rfl ?_; refine rg_nil ?_; show HW _ _ _ _ _
            refine hw_ret ?_; refine ⟨.inr rfl, ?_⟩
            have he := nextE_f (m := m) (firstF_some (P := fun i a b => stepF l (p.getD i default) a b) (i := i) (a := a) (b := b) (by omega) (by omega) (by omega) (stepF_t (by assumption) (by assumption)) hI hA hB)
            exact ⟨_, _, _, _, rfl, (by (repeat' apply And.intro) <;> first | trivial | exact Nat.le_of_ble_eq_true rfl | rfl), rfl, (by (repeat' apply And.intro) <;> first | trivial | exact Nat.le_of_ble_eq_true rfl | rfl), by rw [he]; exact CoL.refl _⟩
          · skip
            have h4 := r4
            have h4 := bif_t r3 h4
            have h4 := not_f h4
            refine hw_skip ?_; show HW _ _ _ _ _; refine hw_region (E := TrydE) Trydok ?_; (iterate 2 refine rq rfl rfl rfl rfl rfl ?_); refine rg_nil ?_; refine ⟨b + 1, ?_, ?_, ?_⟩
            · exact ⟨by show b + 1 ≤ _; omega, all_succ hB (by first | exact stepF_f1 (by assumption) | exact stepF_f2 (by assumption))⟩
            · first | omega | (dsimp only; omega)
            · exact ⟨⟨⟨_, rfl, (by first | exact CoR.refl _ | exact coi (by omega) | exact cob (by simp_all))⟩, ⟨_, rfl, CoR.refl _⟩, ⟨_, rfl, CoR.refl _⟩, ⟨_, rfl, CoR.refl _⟩, ⟨_, rfl, CoR.refl _⟩, ⟨_, rfl, CoR.refl _⟩, ⟨_, rfl, CoR.refl _⟩, ⟨_, rfl, CoR.refl _⟩, ⟨_, rfl, CoR.refl _⟩, ⟨_, rfl, CoR.refl _⟩, ⟨_, rfl, CoR.refl _⟩, ⟨_, rfl, CoR.refl _⟩, ⟨_, rfl, CoR.refl _⟩, trivial⟩, ⟨⟨_, rfl, CoO.refl _⟩, ⟨_, rfl, CoO.refl _⟩, ⟨_, rfl, CoO.refl _⟩, trivial⟩⟩
        · skip
          have h3 := r3
          (iterate 14 refine rk rfl rfl rfl (gft r3) ?_); refine rq rfl rfl rfl rfl rfl ?_ (hp := r3); refine rg_nil ?_; refine ⟨by kernel_rfl, ?_⟩; show HW _ _ _ _ _; refine hw_cond _ rfl (fun e => by cases e) (fun _ => ?_)
          refine hw_skip ?_; show HW _ _ _ _ _; refine hw_region (E := TrydE) Trydok ?_; (iterate 2 refine rq rfl rfl rfl rfl rfl ?_); refine rg_nil ?_; refine ⟨b + 1, ?_, ?_, ?_⟩
          · exact ⟨by show b + 1 ≤ _; omega, all_succ hB (by first | exact stepF_f1 (by assumption) | exact stepF_f2 (by assumption))⟩
          · first | omega | (dsimp only; omega)
          · exact ⟨⟨⟨_, rfl, (by first | exact CoR.refl _ | exact coi (by omega) | exact cob (by simp_all))⟩, ⟨_, rfl, CoR.refl _⟩, ⟨_, rfl, CoR.refl _⟩, ⟨_, rfl, CoR.refl _⟩, ⟨_, rfl, CoR.refl _⟩, ⟨_, rfl, CoR.refl _⟩, ⟨_, rfl, CoR.refl _⟩, ⟨_, rfl, CoR.refl _⟩, ⟨_, rfl, CoR.refl _⟩, ⟨_, rfl, CoR.refl _⟩, ⟨_, rfl, CoR.refl _⟩, ⟨_, rfl, CoR.refl _⟩, ⟨_, rfl, CoR.refl _⟩, trivial⟩, ⟨⟨_, rfl, CoO.refl _⟩, ⟨_, rfl, CoO.refl _⟩, ⟨_, rfl, CoO.refl _⟩, trivial⟩⟩
      · skip
        have h2 := r2
        have h2 := of_decide_eq_false h2
        try simp only [Int.toNat_natCast] at h2
        refine hw_exit ?_; show HW _ _ _ _ _; refine hw_region (E := TrydE) Trydok ?_; (iterate 2 refine rq rfl rfl rfl rfl rfl ?_); refine rg_nil ?_; refine ⟨a + 1, ?_, ?_, ?_⟩
        · exact ⟨by show a + 1 ≤ _; omega, all_succ hA (fun b' hb' => hB b' (by omega))⟩
        · first | omega | (dsimp only; omega)
        · exact ⟨⟨⟨_, rfl, (by first | exact CoR.refl _ | exact coi (by omega) | exact cob (by simp_all))⟩, ⟨_, rfl, CoR.refl _⟩, ⟨_, rfl, CoR.refl _⟩, ⟨_, rfl, CoR.refl _⟩, ⟨_, rfl, CoR.refl _⟩, ⟨_, rfl, CoR.refl _⟩, ⟨_, rfl, CoR.refl _⟩, ⟨_, rfl, CoR.refl _⟩, ⟨_, rfl, CoR.refl _⟩, ⟨_, rfl, CoR.refl _⟩, trivial⟩, ⟨⟨_, rfl, CoO.refl _⟩, ⟨_, rfl, CoO.refl _⟩, ⟨_, rfl, CoO.refl _⟩, trivial⟩⟩
    · skip
      have h1 := r1
      have h1 := of_decide_eq_false h1
      try simp only [Int.toNat_natCast] at h1
      refine hw_exit ?_; show HW _ _ _ _ _; refine hw_region (E := TrydE) Trydok ?_; (iterate 2 refine rq rfl rfl rfl rfl rfl ?_); refine rg_nil ?_; refine ⟨i + 1, ?_, ?_, ?_⟩
      · exact ⟨by show i + 1 ≤ _; omega, all_succ hI (fun a' ha' => hA a' (by omega))⟩
      · first | omega | (dsimp only; omega)
      · exact ⟨⟨⟨_, rfl, (by first | exact CoR.refl _ | exact coi (by omega) | exact cob (by simp_all))⟩, ⟨_, rfl, CoR.refl _⟩, ⟨_, rfl, CoR.refl _⟩, ⟨_, rfl, CoR.refl _⟩, ⟨_, rfl, CoR.refl _⟩, ⟨_, rfl, CoR.refl _⟩, trivial⟩, ⟨⟨_, rfl, CoO.refl _⟩, ⟨_, rfl, CoO.refl _⟩, trivial⟩⟩
  · skip
    have h0 := r0
    have h0 := of_decide_eq_false h0
    try simp only [Int.toNat_natCast] at h0
    obtain rfl : i = p.length := by omega
    have hno := firstF_none (P := fun i a b => stepF l (p.getD i default) a b) (I := p.length) (L := l.length) hI
    refine hw_exit ?_; show HW _ _ _ _ _; (iterate 2 refine hw_seq ?_); refine hw_region (E := TrydE) Trydok ?_; (iterate 3 refine rq rfl rfl rfl rfl rfl ?_); refine rg_nil ?_; show HW _ _ _ _ _; refine hw_block ?_
    refine hw_loopK (ι := Nat) ⟨[(3, some _), (6, some _), (71, some _), (72, some _)], [(0, some _), (1, some _)]⟩ ⟨⟨⟨_, rfl, CoR.refl _⟩, ⟨_, rfl, CoR.refl _⟩, ⟨_, rfl, CoR.refl _⟩, ⟨_, rfl, CoR.refl _⟩, trivial⟩, ⟨⟨_, rfl, CoO.refl _⟩, ⟨_, rfl, CoO.refl _⟩, trivial⟩⟩ (fun k => ⟨[(73, some (vI k))], []⟩) (fun k => k ≤ m.length ∧ (∀ i', i' < k → ∀ a', a' < l.length → ∀ b', b' < l.length → stepM l (m.getD i' default) a' b' = false)) (fun k => m.length - k) (0) (⟨Nat.zero_le _, all_zero⟩) ⟨⟨⟨_, rfl, (by first | exact CoR.refl _ | exact coi (by omega) | exact cob (by simp_all))⟩, trivial⟩, trivial⟩ ?_
    rintro k ⟨hk, hK⟩
    refine hw_seq ?_; refine hw_region (E := TrydE) Trydok ?_; refine rq rfl rfl rfl rfl rfl ?_; refine rg_nil ?_; show HW _ _ _ _ _; refine hw_seq ?_; refine hw_cond _ rfl (fun r5 => ?_) (fun r5 => ?_)
    · skip
      have h5 := r5
      have h5 := of_decide_eq_true h5
      try simp only [Int.toNat_natCast] at h5
      refine hw_skip ?_; show HW _ _ _ _ _; refine hw_seq ?_; refine hw_block ?_; refine hw_seq ?_; refine hw_region (E := TrydE) Trydok ?_; (iterate 3 refine rq rfl rfl rfl rfl rfl ?_); refine rm 3 rfl rfl rfl rfl rfl rfl ?_
      refine rq rfl rfl rfl rfl rfl ?_; refine rs rfl rfl rfl rfl rfl ?_; refine rg_nil ?_; show HW _ _ _ _ _; refine hw_seq ?_; refine hw_region (E := TrydE) Trydok ?_; (iterate 4 refine rq rfl rfl rfl rfl rfl ?_); refine rg_nil ?_
      show HW _ _ _ _ _; refine hw_block ?_
      refine hw_loopK (ι := Nat) ⟨[(3, some _), (6, some _), (12, some _), (13, some _), (71, some _), (72, some _), (73, some _), (80, some _)], [(0, some _), (1, some _), (3, some _)]⟩ ⟨⟨⟨_, rfl, CoR.refl _⟩, ⟨_, rfl, CoR.refl _⟩, ⟨_, rfl, CoR.refl _⟩, ⟨_, rfl, CoR.refl _⟩, ⟨_, rfl, CoR.refl _⟩, ⟨_, rfl, CoR.refl _⟩, ⟨_, rfl, CoR.refl _⟩, ⟨_, rfl, CoR.refl _⟩, trivial⟩, ⟨⟨_, rfl, CoO.refl _⟩, ⟨_, rfl, CoO.refl _⟩, ⟨_, rfl, CoO.refl _⟩, trivial⟩⟩ (fun c => ⟨[(81, some (vI c))], []⟩) (fun c => c ≤ l.length ∧ (∀ a', a' < c → ∀ b', b' < l.length → stepM l (m.getD k default) a' b' = false)) (fun c => l.length - c) (0) (⟨Nat.zero_le _, all_zero⟩) ⟨⟨⟨_, rfl, (by first | exact CoR.refl _ | exact coi (by omega) | exact cob (by simp_all))⟩, trivial⟩, trivial⟩ ?_
      rintro c ⟨hc, hC⟩
      refine hw_seq ?_; refine hw_region (E := TrydE) Trydok ?_; refine rq rfl rfl rfl rfl rfl ?_; refine rg_nil ?_; show HW _ _ _ _ _; refine hw_seq ?_; refine hw_cond _ rfl (fun r6 => ?_) (fun r6 => ?_)
      · skip
        have h6 := r6
        have h6 := of_decide_eq_true h6
        try simp only [Int.toNat_natCast] at h6
        refine hw_skip ?_; show HW _ _ _ _ _; refine hw_seq ?_; refine hw_block ?_; refine hw_seq ?_; refine hw_region (E := TrydE) Trydok ?_; (iterate 2 refine rq rfl rfl rfl rfl rfl ?_); refine rg_nil ?_; show HW _ _ _ _ _
        refine hw_seq ?_; refine hw_region (E := TrydE) Trydok ?_; (iterate 4 refine rq rfl rfl rfl rfl rfl ?_); refine rg_nil ?_; show HW _ _ _ _ _; refine hw_block ?_
        refine hw_loopK (ι := Nat) ⟨[(3, some _), (6, some _), (12, some _), (13, some _), (14, some _), (71, some _), (72, some _), (73, some _), (80, some _), (81, some _), (86, some _)], [(0, some _), (1, some _), (3, some _)]⟩ ⟨⟨⟨_, rfl, CoR.refl _⟩, ⟨_, rfl, CoR.refl _⟩, ⟨_, rfl, CoR.refl _⟩, ⟨_, rfl, CoR.refl _⟩, ⟨_, rfl, CoR.refl _⟩, ⟨_, rfl, CoR.refl _⟩, ⟨_, rfl, CoR.refl _⟩, ⟨_, rfl, CoR.refl _⟩, ⟨_, rfl, CoR.refl _⟩, ⟨_, rfl, CoR.refl _⟩, ⟨_, rfl, CoR.refl _⟩, trivial⟩, ⟨⟨_, rfl, CoO.refl _⟩, ⟨_, rfl, CoO.refl _⟩, ⟨_, rfl, CoO.refl _⟩, trivial⟩⟩ (fun d => ⟨[(87, some (vI d))], []⟩) (fun d => d ≤ l.length ∧ (∀ b', b' < d → stepM l (m.getD k default) c b' = false)) (fun d => l.length - d) (0) (⟨Nat.zero_le _, all_zero⟩) ⟨⟨⟨_, rfl, (by first | exact CoR.refl _ | exact coi (by omega) | exact cob (by simp_all))⟩, trivial⟩, trivial⟩ ?_
        rintro d ⟨hd, hD⟩
        refine hw_seq ?_; refine hw_region (E := TrydE) Trydok ?_; refine rq rfl rfl rfl rfl rfl ?_; refine rg_nil ?_; show HW _ _ _ _ _; refine hw_seq ?_; refine hw_cond _ rfl (fun r7 => ?_) (fun r7 => ?_)
        · skip
          have h7 := r7
          have h7 := of_decide_eq_true h7
          try simp only [Int.toNat_natCast] at h7
          refine hw_skip ?_; show HW _ _ _ _ _; refine hw_seq ?_; refine hw_block ?_; refine hw_seq ?_; refine hw_region (E := TrydE) Trydok ?_; (iterate 2 refine rq rfl rfl rfl rfl rfl ?_); refine rg_nil ?_; show HW _ _ _ _ _
          refine hw_seq ?_; refine hw_draw (E := TrydE) Trydok Trydmixed [0, 1, 2, 3, 4, 5, 6, 7, 8, 9, 10, 11, 12, 13, 14, 15, 16, 17, 18, 19, 20, 21, 22, 23, 24, 25, 26, 27, 28, 29, 30, 31, 32, 33] ?_
          (iterate 12 refine rq rfl rfl rfl rfl rfl ?_)
          refine rc rfl rfl rfl rfl rfl rfl good65 (cAgree (l.getD c default) (l.getD d default) (m.getD k default).lhs (by rw [hrow _ (by omega), hrow _ (by omega)]) (by rw [hrow _ (by omega)]; omega)) (CoL.refl _) rfl rfl ?_
          refine rq rfl rfl rfl rfl rfl ?_; refine rsplit rfl rfl (fun r8 => ?_) (fun r8 => ?_)
          · skip
            have h8 := r8
            (iterate 16 refine rq rfl rfl rfl rfl (gtt r8) ?_)
            refine rc rfl rfl rfl rfl rfl rfl good66 (cMixed (l.getD c default) (l.getD d default) ((m.getD k default).lhs ||| (m.getD k default).rhs) (by rw [hrow _ (by omega), hrow _ (by omega)]) (by rw [hrow _ (by omega)]; omega)) (⟨CoC.refl _, CoC.refl _, cci (by rw [bOr]; rfl), trivial⟩) rfl (gtt r8) ?_
            refine rc rfl rfl rfl rfl rfl rfl good16 (cCont n l (mixZ (l.getD c default) (l.getD d default) ((m.getD k default).lhs ||| (m.getD k default).rhs))) (CoL.refl _) rfl (gtt r8) ?_; refine rq rfl rfl rfl rfl (gtt r8) ?_
            refine rq rfl rfl rfl rfl rfl ?_; refine rg_nil ?_; refine ⟨by kernel_rfl, ?_⟩; show HW _ _ _ _ _; refine hw_cond _ rfl (fun r9 => ?_) (fun r9 => ?_)
            · skip
              have h9 := r9
              have h9 := bif_t r8 h9
              have h9 := not_t h9
              refine hw_seq ?_; refine hw_region (E := TrydE) Trydok ?_; (iterate 4 refine rq rfl rfl rfl rfl rfl ?_); refine rs rfl rfl rfl rfl rfl ?_; refine rq rfl rfl rfl rfl rfl ?_; refine rg_nil ?_; show HW _ _ _ _ _
              refine hw_ret ?_; refine ⟨.inr rfl, ?_⟩
              have he := nextE_m hno (firstF_some (P := fun i a b => stepM l (m.getD i default) a b) (i := k) (a := c) (b := d) (by omega) (by omega) (by omega) (stepM_t (by assumption) (by assumption)) hK hC hD)
              exact ⟨_, _, _, _, rfl, (by (repeat' apply And.intro) <;> first | trivial | exact Nat.le_of_ble_eq_true rfl | rfl), rfl, (by (repeat' apply And.intro) <;> first | trivial | exact Nat.le_of_ble_eq_true rfl | rfl), by rw [he]; exact CoL.refl _⟩
            · skip
              have h9 := r9
              have h9 := bif_t r8 h9
              have h9 := not_f h9
              refine hw_skip ?_; show HW _ _ _ _ _; refine hw_region (E := TrydE) Trydok ?_; (iterate 2 refine rq rfl rfl rfl rfl rfl ?_); refine rg_nil ?_; refine ⟨d + 1, ?_, ?_, ?_⟩
              · exact ⟨by show d + 1 ≤ _; omega, all_succ hD (by first | exact stepM_f1 (by assumption) | exact stepM_f2 (by assumption))⟩
              · first | omega | (dsimp only; omega)
              · exact ⟨⟨⟨_, rfl, (by first | exact CoR.refl _ | exact coi (by omega) | exact cob (by simp_all))⟩, ⟨_, rfl, CoR.refl _⟩, ⟨_, rfl, CoR.refl _⟩, ⟨_, rfl, CoR.refl _⟩, ⟨_, rfl, CoR.refl _⟩, ⟨_, rfl, CoR.refl _⟩, ⟨_, rfl, CoR.refl _⟩, ⟨_, rfl, CoR.refl _⟩, ⟨_, rfl, CoR.refl _⟩, ⟨_, rfl, CoR.refl _⟩, ⟨_, rfl, CoR.refl _⟩, ⟨_, rfl, CoR.refl _⟩, trivial⟩, ⟨⟨_, rfl, CoO.refl _⟩, ⟨_, rfl, CoO.refl _⟩, ⟨_, rfl, CoO.refl _⟩, trivial⟩⟩
          · skip
            have h8 := r8
            (iterate 19 refine rk rfl rfl rfl (gft r8) ?_); refine rq rfl rfl rfl rfl rfl ?_ (hp := r8); refine rg_nil ?_; refine ⟨by kernel_rfl, ?_⟩; show HW _ _ _ _ _; refine hw_cond _ rfl (fun e => by cases e) (fun _ => ?_)
            refine hw_skip ?_; show HW _ _ _ _ _; refine hw_region (E := TrydE) Trydok ?_; (iterate 2 refine rq rfl rfl rfl rfl rfl ?_); refine rg_nil ?_; refine ⟨d + 1, ?_, ?_, ?_⟩
            · exact ⟨by show d + 1 ≤ _; omega, all_succ hD (by first | exact stepM_f1 (by assumption) | exact stepM_f2 (by assumption))⟩
            · first | omega | (dsimp only; omega)
            · exact ⟨⟨⟨_, rfl, (by first | exact CoR.refl _ | exact coi (by omega) | exact cob (by simp_all))⟩, ⟨_, rfl, CoR.refl _⟩, ⟨_, rfl, CoR.refl _⟩, ⟨_, rfl, CoR.refl _⟩, ⟨_, rfl, CoR.refl _⟩, ⟨_, rfl, CoR.refl _⟩, ⟨_, rfl, CoR.refl _⟩, ⟨_, rfl, CoR.refl _⟩, ⟨_, rfl, CoR.refl _⟩, ⟨_, rfl, CoR.refl _⟩, ⟨_, rfl, CoR.refl _⟩, ⟨_, rfl, CoR.refl _⟩, trivial⟩, ⟨⟨_, rfl, CoO.refl _⟩, ⟨_, rfl, CoO.refl _⟩, ⟨_, rfl, CoO.refl _⟩, trivial⟩⟩
        · skip
          have h7 := r7
          have h7 := of_decide_eq_false h7
          try simp only [Int.toNat_natCast] at h7
          refine hw_exit ?_; show HW _ _ _ _ _; refine hw_region (E := TrydE) Trydok ?_; (iterate 2 refine rq rfl rfl rfl rfl rfl ?_); refine rg_nil ?_; refine ⟨c + 1, ?_, ?_, ?_⟩
          · exact ⟨by show c + 1 ≤ _; omega, all_succ hC (fun b' hb' => hD b' (by omega))⟩
          · first | omega | (dsimp only; omega)
          · exact ⟨⟨⟨_, rfl, (by first | exact CoR.refl _ | exact coi (by omega) | exact cob (by simp_all))⟩, ⟨_, rfl, CoR.refl _⟩, ⟨_, rfl, CoR.refl _⟩, ⟨_, rfl, CoR.refl _⟩, ⟨_, rfl, CoR.refl _⟩, ⟨_, rfl, CoR.refl _⟩, ⟨_, rfl, CoR.refl _⟩, ⟨_, rfl, CoR.refl _⟩, ⟨_, rfl, CoR.refl _⟩, trivial⟩, ⟨⟨_, rfl, CoO.refl _⟩, ⟨_, rfl, CoO.refl _⟩, ⟨_, rfl, CoO.refl _⟩, trivial⟩⟩
      · skip
        have h6 := r6
        have h6 := of_decide_eq_false h6
        try simp only [Int.toNat_natCast] at h6
        refine hw_exit ?_; show HW _ _ _ _ _; refine hw_region (E := TrydE) Trydok ?_; (iterate 2 refine rq rfl rfl rfl rfl rfl ?_); refine rg_nil ?_; refine ⟨k + 1, ?_, ?_, ?_⟩
        · exact ⟨by show k + 1 ≤ _; omega, all_succ hK (fun a' ha' => hC a' (by omega))⟩
        · first | omega | (dsimp only; omega)
        · exact ⟨⟨⟨_, rfl, (by first | exact CoR.refl _ | exact coi (by omega) | exact cob (by simp_all))⟩, ⟨_, rfl, CoR.refl _⟩, ⟨_, rfl, CoR.refl _⟩, ⟨_, rfl, CoR.refl _⟩, ⟨_, rfl, CoR.refl _⟩, trivial⟩, ⟨⟨_, rfl, CoO.refl _⟩, ⟨_, rfl, CoO.refl _⟩, trivial⟩⟩
    · skip
      have h5 := r5
      have h5 := of_decide_eq_false h5
      try simp only [Int.toNat_natCast] at h5
      refine hw_exit ?_; show HW _ _ _ _ _; refine hw_seq ?_; refine hw_region (E := TrydE) Trydok ?_; refine rq rfl rfl rfl rfl rfl ?_; refine rs rfl rfl rfl rfl rfl ?_; refine rq rfl rfl rfl rfl rfl ?_; refine rg_nil ?_
      show HW _ _ _ _ _; refine hw_ret ?_; refine ⟨.inr rfl, ?_⟩
      have he := nextE_n hno (firstF_none (P := fun i a b => stepM l (m.getD i default) a b) (I := m.length) (L := l.length) fun j hj => hK j (by omega))
      exact ⟨_, _, _, _, rfl, (by (repeat' apply And.intro) <;> first | trivial | exact Nat.le_of_ble_eq_true rfl | rfl), rfl, (by (repeat' apply And.intro) <;> first | trivial | exact Nat.le_of_ble_eq_true rfl | rfl), by rw [he]; exact CoL.refl _⟩
end Go.Hx
end
section
namespace Go.Hx
def stV (n : Int) (i : Nat) (p : AS) (c : Nat) : Int := if hasI p (c : Int) = true then (c : Int) else n + (i : Int) * n + (c : Int)
def stT (n : Int) (i : Nat) (p : AS) (k : Nat) : Rw := (List.range n.toNat).map fun c => if c < k then stV n i p c else 0
def stR (n : Int) (i : Nat) (p : AS) : Rw := (List.range n.toNat).map fun c => stV n i p c
def stRows (n : Int) (ps : List AS) : List Rw := (List.range ps.length).map fun i => stR n i (ps.getD i default)
theorem stR_len (n : Int) (i : Nat) (p : AS) : (stR n i p).length = n.toNat := by unfold stR; simp
theorem stRows_len (n : Int) (ps : List AS) : (stRows n ps).length = ps.length := by unfold stRows; simp
theorem stRows_at {n : Int} {ps : List AS} {i : Nat} (h : i < ps.length) : (stRows n ps).getD i default = stR n i (ps.getD i default) := by
  unfold stRows
  rw [List.getD_eq_getElem?_getD, List.getElem?_map, List.getElem?_range h]
  rfl
theorem stT_end (n : Int) (i : Nat) (p : AS) {k : Nat} (h : n.toNat ≤ k) : stT n i p k = stR n i p := by
  unfold stT stR
  refine List.map_congr_left fun c hc => ?_
  have := List.mem_range.1 hc
  rw [if_pos (by omega)]
theorem stT_at {n : Int} {i : Nat} {p : AS} {k c : Nat} (h : c < n.toNat) : (stT n i p k).getD c default = if c < k then stV n i p c else 0 := by
  unfold stT
  rw [List.getD_eq_getElem?_getD, List.getElem?_map, List.getElem?_range h]
  rfl
theorem stT_zero {n : Int} {i : Nat} {p : AS} {N : Nat} {f : Nat → Nat → PV} (hN : N = n.toNat) (hf : ∀ a, f a 0 = .raw (.int .i64 0)) : CoO (.arr true 1 3 N f) (.arr true 1 3 N (lf zC (stT n i p 0))) :=
  ⟨fun h => h, rfl, rfl, rfl, fun a j ha hj => by
    obtain rfl : j = 0 := by omega
    refine CoP.of_eq ?_
    rw [hf]
    show _ = PV.raw (.int .i64 ((stT n i p 0).getD a default))
    rw [stT_at (by omega), if_neg (by omega)]⟩
theorem stT_next {n : Int} {i : Nat} {p : AS} {k : Nat} : ∀ c, c < n.toNat → (stT n i p (k + 1)).getD c default = if c = k then stV n i p k else (stT n i p k).getD c default := fun c hc => by
  rw [stT_at hc, stT_at hc]
  by_cases h : c = k
  · rw [if_pos h, if_pos (by omega), h]
  · rw [if_neg h]
    by_cases h2 : c < k
    · rw [if_pos h2, if_pos (by omega)]
    · rw [if_neg h2, if_neg (by omega)]
theorem co_st2 {n : Int} {i : Nat} {p : AS} {k a b N : Nat} {x : Int} (h : hasI p (k : Int) = true) (hN : N = n.toNat) (ha : a = k) (hb : b = k) :
    CoO (.arr true 1 3 N (setEl (setEl (lf zC (stT n i p k)) a 0 [.raw (.int .i64 x)]) b 0 [.raw (.int .i64 (k : Int))])) (.arr true 1 3 N (lf zC (stT n i p (k + 1)))) := by
  subst ha hb
  refine ⟨fun h => h, rfl, rfl, rfl, fun c j hc hj => CoP.of_eq ?_⟩
  obtain rfl : j = 0 := by omega
  show _ = PV.raw (.int .i64 ((stT n i p (b + 1)).getD c default))
  rw [stT_next c (by omega)]
  unfold setEl
  by_cases e : c = b
  · rw [if_pos ⟨e, by omega, by simp⟩, if_pos e]
    unfold stV
    rw [if_pos h]
    rfl
  · rw [if_neg (fun x => e x.1), if_neg (fun x => e x.1), if_neg e]
    rfl
theorem co_st1 {n : Int} {i : Nat} {p : AS} {k a N : Nat} (h : ¬ hasI p (k : Int) = true) (hN : N = n.toNat) (ha : a = k) :
    CoO (.arr true 1 3 N (setEl (lf zC (stT n i p k)) a 0 [.raw (.int .i64 (n + (i : Int) * n + (k : Int)))])) (.arr true 1 3 N (lf zC (stT n i p (k + 1)))) := by
  subst ha
  refine ⟨fun h => h, rfl, rfl, rfl, fun c j hc hj => CoP.of_eq ?_⟩
  obtain rfl : j = 0 := by omega
  show _ = PV.raw (.int .i64 ((stT n i p (a + 1)).getD c default))
  rw [stT_next c (by omega)]
  unfold setEl
  by_cases e : c = a
  · rw [if_pos ⟨e, by omega, by simp⟩, if_pos e]
    unfold stV
    rw [if_neg h]
    rfl
  · rw [if_neg (fun x => e x.1), if_neg e]
    rfl
theorem shr_p {s : AS} {n : Int} : (asI s).fdiv (2 ^ (min n.toNat 32)) = 0 ↔ s >>> n.toNat = 0 := by
  rw [bShr, show (0 : Int) = asI 0 from rfl, asI_inj]
theorem mulB {n : Int} {i : Nat} (h0 : 0 ≤ n) (h1 : n ≤ 16) (hi : i ≤ 64) : 0 ≤ (i : Int) * n ∧ (i : Int) * n ≤ 1024 := by
  refine ⟨Int.mul_nonneg (by omega) h0, ?_⟩
  have h2 : (i : Int) * n ≤ (i : Int) * 16 := Int.mul_le_mul_of_nonneg_left h1 (by omega)
  omega
def startE (n : Int) (ps : List AS) : Int × List Rw × Int :=
  if n < 0 ∨ 16 < n then (0, [], 7) else if 64 < ps.length then (0, [], 3) else if ps.all (fun p => decide (p >>> n.toNat = 0)) = true then (n, canon (stRows n ps), 0) else (0, [], 1)
theorem startE_0 {n : Int} {ps : List AS} (h : n < 0 ∨ 16 < n) : startE n ps = (0, [], 7) := if_pos h
theorem startE_1 {n : Int} {ps : List AS} (h : ¬ (n < 0 ∨ 16 < n)) (h2 : 64 < ps.length) : startE n ps = (0, [], 3) := by unfold startE; rw [if_neg h, if_pos h2]
theorem startE_2 {n : Int} {ps : List AS} {i : Nat} (h : ¬ (n < 0 ∨ 16 < n)) (h2 : ¬ 64 < ps.length) (hi : i < ps.length) (h3 : ¬ (ps.getD i default) >>> n.toNat = 0) : startE n ps = (0, [], 1) := by
  unfold startE
  rw [if_neg h, if_neg h2, if_neg (fun e => absurd (all_f (l := ps) (p := fun p : AS => decide (p >>> n.toNat = 0)) hi (decide_eq_false h3)) (by rw [e]; decide))]
theorem startE_3 {n : Int} {ps : List AS} (h : ¬ (n < 0 ∨ 16 < n)) (h2 : ¬ 64 < ps.length) (h3 : ∀ j, j < ps.length → (ps.getD j default) >>> n.toNat = 0) : startE n ps = (n, canon (stRows n ps), 0) := by
  unfold startE
  rw [if_neg h, if_neg h2, if_pos (all_t (l := ps) (p := fun p : AS => decide (p >>> n.toNat = 0)) fun j hj => decide_eq_true (h3 j hj))]
theorem co_strow {n : Int} {ps : List AS} {i k : Nat} (hi : i < ps.length) (hk : n.toNat ≤ k) : CoP (.sl n.toNat 1 false (lf zC (stT n i (ps.getD i default) k))) (lf rC (stRows n ps) i 0) := by
  show CoP _ (zl ((stRows n ps).getD i default))
  rw [stRows_at hi, stT_end n i _ hk]
  exact CoP.sl (stR_len _ _ _) (.inl rfl) (fun h => h) fun a j ha hj => CoP.refl _
end Go.Hx
end
section
namespace Go.Hx
open Go.Proofs
set_option maxRecDepth 100000
theorem good19 : goodFn Tryd.prog 19 := ⟨Tryd.f19, Tryd.func19, by kernel_rfl, by kernel_rfl⟩
theorem cStart (n : Int) (ps : List AS) : HPure Tryd.prog 19 [pI n, pP (asl ps)] (prOf [pT (startE n ps).1 (startE n ps).2.1, pI (startE n ps).2.2]) := by
  refine hpure_of (nt := 73) Trydok Tryd.func19 rfl rfl (Nat.le_of_ble_eq_true rfl) ?_; refine hw_seq ?_; refine hw_region (E := TrydE) Trydok ?_; refine rm 0 rfl rfl rfl rfl rfl rfl ?_; refine rq rfl rfl rfl rfl rfl ?_
  refine rg_nil ?_; show HW _ _ _ _ _; refine hw_seq ?_; refine hw_block ?_; refine hw_seq ?_; refine hw_region (E := TrydE) Trydok ?_; (iterate 3 refine rq rfl rfl rfl rfl rfl ?_)
  refine rsplit rfl rfl (fun r0 => ?_) (fun r0 => ?_)
  · skip
    have h0 := r0
    have h0 := of_decide_eq_true h0
    try simp only [Int.toNat_natCast] at h0
    (iterate 2 refine rk rfl rfl rfl (gtf r0) ?_); refine rq rfl rfl rfl rfl rfl ?_ (hp := r0); refine rq rfl rfl rfl rfl rfl ?_; refine rg_nil ?_; show HW _ _ _ _ _; refine hw_cond _ rfl (fun _ => ?_) (fun e => by cases e)
    refine hw_seq ?_; refine hw_region (E := TrydE) Trydok ?_; refine rq rfl rfl rfl rfl rfl ?_; refine rs rfl rfl rfl rfl rfl ?_; refine rq rfl rfl rfl rfl rfl ?_; refine rg_nil ?_; show HW _ _ _ _ _; refine hw_ret ?_
    refine ⟨.inr rfl, ?_⟩
    have he := startE_0 (n := n) (ps := ps) (by omega)
    exact ⟨_, _, _, _, rfl, (by (repeat' apply And.intro) <;> first | trivial | exact Nat.le_of_ble_eq_true rfl | rfl), rfl, (by (repeat' apply And.intro) <;> first | trivial | exact Nat.le_of_ble_eq_true rfl | rfl), by rw [he]; exact ⟨CoC.agg ⟨CoP.refl _, co_nilZ, trivial⟩, CoC.refl _, trivial⟩⟩
  · skip
    have h0 := r0
    have h0 := of_decide_eq_false h0
    try simp only [Int.toNat_natCast] at h0
    (iterate 2 refine rq rfl rfl rfl rfl (gff r0) ?_); (iterate 2 refine rq rfl rfl rfl rfl rfl ?_); refine rg_nil ?_; show HW _ _ _ _ _; refine hw_cond _ rfl (fun r1 => ?_) (fun r1 => ?_)
    · skip
      have h1 := r1
      have h1 := bif_f r0 h1
      have h1 := of_decide_eq_true h1
      try simp only [Int.toNat_natCast] at h1
      refine hw_seq ?_; refine hw_region (E := TrydE) Trydok ?_; refine rq rfl rfl rfl rfl rfl ?_; refine rs rfl rfl rfl rfl rfl ?_; refine rq rfl rfl rfl rfl rfl ?_; refine rg_nil ?_; show HW _ _ _ _ _; refine hw_ret ?_
      refine ⟨.inr rfl, ?_⟩
      have he := startE_0 (n := n) (ps := ps) (by omega)
      exact ⟨_, _, _, _, rfl, (by (repeat' apply And.intro) <;> first | trivial | exact Nat.le_of_ble_eq_true rfl | rfl), rfl, (by (repeat' apply And.intro) <;> first | trivial | exact Nat.le_of_ble_eq_true rfl | rfl), by rw [he]; exact ⟨CoC.agg ⟨CoP.refl _, co_nilZ, trivial⟩, CoC.refl _, trivial⟩⟩
    · skip
      have h1 := r1
      have h1 := bif_f r0 h1
      have h1 := of_decide_eq_false h1
      try simp only [Int.toNat_natCast] at h1
      refine hw_seq ?_; refine hw_region (E := TrydE) Trydok ?_; (iterate 4 refine rq rfl rfl rfl rfl rfl ?_); refine rg_nil ?_; show HW _ _ _ _ _; refine hw_cond _ rfl (fun r2 => ?_) (fun r2 => ?_)
      · skip
        have h2 := r2
        have h2 := of_decide_eq_true h2
        try simp only [Int.toNat_natCast] at h2
        refine hw_seq ?_; refine hw_region (E := TrydE) Trydok ?_; refine rq rfl rfl rfl rfl rfl ?_; refine rs rfl rfl rfl rfl rfl ?_; refine rq rfl rfl rfl rfl rfl ?_; refine rg_nil ?_; show HW _ _ _ _ _; refine hw_ret ?_
        refine ⟨.inr rfl, ?_⟩
        have he := startE_1 (n := n) (ps := ps) (by omega) (by omega)
        exact ⟨_, _, _, _, rfl, (by (repeat' apply And.intro) <;> first | trivial | exact Nat.le_of_ble_eq_true rfl | rfl), rfl, (by (repeat' apply And.intro) <;> first | trivial | exact Nat.le_of_ble_eq_true rfl | rfl), by rw [he]; exact ⟨CoC.agg ⟨CoP.refl _, co_nilZ, trivial⟩, CoC.refl _, trivial⟩⟩
      · skip
        have h2 := r2
        have h2 := of_decide_eq_false h2
        try simp only [Int.toNat_natCast] at h2
        refine hw_skip ?_; show HW _ _ _ _ _; refine hw_seq ?_; refine hw_region (E := TrydE) Trydok ?_; (iterate 2 refine rq rfl rfl rfl rfl rfl ?_); refine rm 1 rfl rfl rfl rfl rfl rfl ?_; refine rs rfl rfl rfl rfl rfl ?_
        refine rg_nil ?_; refine hw_adopt_cell 1 1 900 true 1 25 (lf rC (stRows n ps)) (by decide) rfl rfl (CoP.sl rfl (.inr rfl) (fun h => h) (fun i j hi _ => absurd hi (Nat.not_lt_zero i))) (.inr rfl) rfl rfl ?_; show HW _ _ _ _ _
        (iterate 2 refine hw_seq ?_); refine hw_region (E := TrydE) Trydok ?_; (iterate 3 refine rq rfl rfl rfl rfl rfl ?_); refine rg_nil ?_; show HW _ _ _ _ _; refine hw_block ?_
        refine hw_loopK (ι := Nat) ⟨[(0, some _), (4, some _), (6, some _), (26, some _), (27, some _)], [(0, some _)]⟩ ⟨⟨⟨_, rfl, CoR.refl _⟩, ⟨_, rfl, CoR.refl _⟩, ⟨_, rfl, CoR.refl _⟩, ⟨_, rfl, CoR.refl _⟩, ⟨_, rfl, CoR.refl _⟩, trivial⟩, ⟨⟨_, rfl, CoO.refl _⟩, trivial⟩⟩ (fun i => ⟨[(28, some (vI i))], [(1, some (.box [.p (.raw (.int .i64 n)), .ref 900 i])), (900, some (.arr true 1 25 i (lf rC (stRows n ps))))]⟩) (fun i => i ≤ ps.length ∧ ∀ j, j < i → (ps.getD j default) >>> n.toNat = 0) (fun i => ps.length - i) (0) (⟨Nat.zero_le _, all_zero⟩) ⟨⟨⟨_, rfl, (by first | exact CoR.refl _ | exact coi (by omega) | exact cob (by simp_all))⟩, trivial⟩, ⟨⟨_, rfl, CoO.refl _⟩, ⟨_, rfl, CoO.refl _⟩, trivial⟩⟩ ?_
        rintro i ⟨hi, hI⟩
        refine hw_seq ?_; refine hw_region (E := TrydE) Trydok ?_; refine rq rfl rfl rfl rfl rfl ?_; refine rg_nil ?_; show HW _ _ _ _ _; refine hw_seq ?_; refine hw_cond _ rfl (fun r3 => ?_) (fun r3 => ?_)
        · skip
          have h3 := r3
          have h3 := of_decide_eq_true h3
          try simp only [Int.toNat_natCast] at h3
          have hin := mulB (n := n) (i := i) (by omega) (by omega) (by omega)
          refine hw_skip ?_; show HW _ _ _ _ _; refine hw_seq ?_; refine hw_block ?_; refine hw_seq ?_; refine hw_region (E := TrydE) Trydok ?_; (iterate 5 refine rq rfl rfl rfl rfl rfl ?_); refine rg_nil ?_; show HW _ _ _ _ _
          (iterate 2 refine hw_seq ?_); refine hw_region (E := TrydE) Trydok ?_; (iterate 4 refine rq rfl rfl rfl rfl rfl ?_); refine rg_nil ?_; show HW _ _ _ _ _; refine hw_cond _ rfl (fun r4 => ?_) (fun r4 => ?_)
          · skip
            have h4 := r4
            have h4 := of_decide_eq_false (not_t h4)
            try simp only [Int.toNat_natCast] at h4
            refine hw_seq ?_; refine hw_region (E := TrydE) Trydok ?_; refine rq rfl rfl rfl rfl rfl ?_; refine rs rfl rfl rfl rfl rfl ?_; refine rq rfl rfl rfl rfl rfl ?_; refine rg_nil ?_; show HW _ _ _ _ _; refine hw_ret ?_
            refine ⟨.inr rfl, ?_⟩
            have he := startE_2 (n := n) (ps := ps) (i := i) (by omega) (by omega) (by omega) (fun e => absurd (shr_p.2 e) (by assumption))
            exact ⟨_, _, _, _, rfl, (by (repeat' apply And.intro) <;> first | trivial | exact Nat.le_of_ble_eq_true rfl | rfl), rfl, (by (repeat' apply And.intro) <;> first | trivial | exact Nat.le_of_ble_eq_true rfl | rfl), by rw [he]; exact ⟨CoC.agg ⟨CoP.refl _, co_nilZ, trivial⟩, CoC.refl _, trivial⟩⟩
          · skip
            have h4 := r4
            have h4 := of_decide_eq_true (not_f h4)
            try simp only [Int.toNat_natCast] at h4
            refine hw_skip ?_; show HW _ _ _ _ _; refine hw_seq ?_; refine hw_region (E := TrydE) Trydok ?_; refine rq rfl rfl rfl rfl rfl ?_; refine rm 2 rfl rfl rfl rfl rfl rfl ?_; refine rq rfl rfl rfl rfl rfl ?_
            refine rg_nil ?_; show HW _ _ _ _ _; (iterate 2 refine hw_seq ?_); refine hw_region (E := TrydE) Trydok ?_; (iterate 2 refine rq rfl rfl rfl rfl rfl ?_); refine rg_nil ?_; show HW _ _ _ _ _; refine hw_block ?_
            refine hw_loopK (ι := Nat) ⟨[(0, some _), (4, some _), (6, some _), (7, some _), (8, some _), (9, some _), (26, some _), (27, some _), (28, some _), (40, some _)], [(1, some _), (900, some _), (0, some _)]⟩ ⟨⟨⟨_, rfl, CoR.refl _⟩, ⟨_, rfl, CoR.refl _⟩, ⟨_, rfl, CoR.refl _⟩, ⟨_, rfl, CoR.refl _⟩, ⟨_, rfl, CoR.refl _⟩, ⟨_, rfl, CoR.refl _⟩, ⟨_, rfl, CoR.refl _⟩, ⟨_, rfl, CoR.refl _⟩, ⟨_, rfl, CoR.refl _⟩, ⟨_, rfl, CoR.refl _⟩, trivial⟩, ⟨⟨_, rfl, CoO.refl _⟩, ⟨_, rfl, CoO.refl _⟩, ⟨_, rfl, CoO.refl _⟩, trivial⟩⟩ (fun k => ⟨[(41, some (vI k))], [(2, some (.arr true 1 3 n.toNat (lf zC (stT n i (ps.getD i default) k))))]⟩) (fun k => k ≤ n.toNat) (fun k => n.toNat - k) (0) (Nat.zero_le _) ⟨⟨⟨_, rfl, (by first | exact CoR.refl _ | exact coi (by omega) | exact cob (by simp_all))⟩, trivial⟩, ⟨⟨_, rfl, (stT_zero rfl (fun _ => rfl))⟩, trivial⟩⟩ ?_
            rintro k hk
            refine hw_seq ?_; refine hw_region (E := TrydE) Trydok ?_; refine rq rfl rfl rfl rfl rfl ?_; refine rg_nil ?_; show HW _ _ _ _ _; refine hw_seq ?_; refine hw_cond _ rfl (fun r5 => ?_) (fun r5 => ?_)
            · skip
              have h5 := r5
              have h5 := of_decide_eq_true h5
              try simp only [Int.toNat_natCast] at h5
              refine hw_skip ?_; show HW _ _ _ _ _; refine hw_seq ?_; refine hw_block ?_; refine hw_seq ?_; refine hw_region (E := TrydE) Trydok ?_; (iterate 2 refine rq rfl rfl rfl rfl rfl ?_); refine rg_nil ?_; show HW _ _ _ _ _
              refine hw_seq ?_; refine hw_region (E := TrydE) Trydok ?_; (iterate 10 refine rq rfl rfl rfl rfl rfl ?_); refine rs rfl rfl rfl rfl rfl ?_; refine rg_nil ?_; show HW _ _ _ _ _; refine hw_seq ?_
              refine hw_region (E := TrydE) Trydok ?_; (iterate 5 refine rq rfl rfl rfl rfl rfl ?_); refine rg_nil ?_; show HW _ _ _ _ _; refine hw_cond _ rfl (fun r6 => ?_) (fun r6 => ?_)
              · skip
                have h6 := r6
                have h6 := of_decide_eq_true h6
                try simp only [Int.toNat_natCast] at h6
                refine hw_region (E := TrydE) Trydok ?_; (iterate 4 refine rq rfl rfl rfl rfl rfl ?_); refine rs rfl rfl rfl rfl rfl ?_; refine rg_nil ?_; show HW _ _ _ _ _; refine hw_region (E := TrydE) Trydok ?_
                (iterate 2 refine rq rfl rfl rfl rfl rfl ?_); refine rg_nil ?_; refine ⟨k + 1, ?_, ?_, ?_⟩
                · show k + 1 ≤ _; omega
                · first | omega | (dsimp only; omega)
                · exact ⟨⟨⟨_, rfl, (by first | exact CoR.refl _ | exact coi (by omega) | exact cob (by simp_all))⟩, ⟨_, rfl, CoR.refl _⟩, ⟨_, rfl, CoR.refl _⟩, ⟨_, rfl, CoR.refl _⟩, ⟨_, rfl, CoR.refl _⟩, ⟨_, rfl, CoR.refl _⟩, ⟨_, rfl, CoR.refl _⟩, ⟨_, rfl, CoR.refl _⟩, ⟨_, rfl, CoR.refl _⟩, ⟨_, rfl, CoR.refl _⟩, ⟨_, rfl, CoR.refl _⟩, trivial⟩, ⟨⟨_, rfl, (by first | exact co_st2 ((has_n (by omega)).1 (by assumption)) rfl (by omega) (by omega) | exact co_st1 (fun e => absurd ((has_n (by omega)).2 e) (by assumption)) rfl (by omega))⟩, ⟨_, rfl, CoO.refl _⟩, ⟨_, rfl, CoO.refl _⟩, ⟨_, rfl, CoO.refl _⟩, trivial⟩⟩
              · skip
                have h6 := r6
                have h6 := of_decide_eq_false h6
                try simp only [Int.toNat_natCast] at h6
                refine hw_skip ?_; show HW _ _ _ _ _; refine hw_region (E := TrydE) Trydok ?_; (iterate 2 refine rq rfl rfl rfl rfl rfl ?_); refine rg_nil ?_; refine ⟨k + 1, ?_, ?_, ?_⟩
                · show k + 1 ≤ _; omega
                · first | omega | (dsimp only; omega)
                · exact ⟨⟨⟨_, rfl, (by first | exact CoR.refl _ | exact coi (by omega) | exact cob (by simp_all))⟩, ⟨_, rfl, CoR.refl _⟩, ⟨_, rfl, CoR.refl _⟩, ⟨_, rfl, CoR.refl _⟩, ⟨_, rfl, CoR.refl _⟩, ⟨_, rfl, CoR.refl _⟩, ⟨_, rfl, CoR.refl _⟩, ⟨_, rfl, CoR.refl _⟩, ⟨_, rfl, CoR.refl _⟩, ⟨_, rfl, CoR.refl _⟩, ⟨_, rfl, CoR.refl _⟩, trivial⟩, ⟨⟨_, rfl, (by first | exact co_st2 ((has_n (by omega)).1 (by assumption)) rfl (by omega) (by omega) | exact co_st1 (fun e => absurd ((has_n (by omega)).2 e) (by assumption)) rfl (by omega))⟩, ⟨_, rfl, CoO.refl _⟩, ⟨_, rfl, CoO.refl _⟩, ⟨_, rfl, CoO.refl _⟩, trivial⟩⟩
            · skip
              have h5 := r5
              have h5 := of_decide_eq_false h5
              try simp only [Int.toNat_natCast] at h5
              refine hw_exit ?_; show HW _ _ _ _ _; refine hw_freeze 9 rfl rfl rfl ?_; refine hw_region (E := TrydE) Trydok ?_; (iterate 3 refine rq rfl rfl rfl rfl rfl ?_); refine rm 3 rfl rfl rfl rfl rfl rfl ?_
              refine ra 4 true rfl rfl rfl rfl rfl rfl ?_; refine rq rfl rfl rfl rfl rfl ?_; refine rs rfl rfl rfl rfl rfl ?_; refine rg_nil ?_; show HW _ _ _ _ _; refine hw_region (E := TrydE) Trydok ?_
              (iterate 2 refine rq rfl rfl rfl rfl rfl ?_); refine rg_nil ?_; refine ⟨i + 1, ?_, ?_, ?_⟩
              · exact ⟨by show i + 1 ≤ _; omega, all_succ hI (shr_p.1 (by assumption))⟩
              · first | omega | (dsimp only; omega)
              · exact ⟨⟨⟨_, rfl, (by first | exact CoR.refl _ | exact coi (by omega) | exact cob (by simp_all))⟩, ⟨_, rfl, CoR.refl _⟩, ⟨_, rfl, CoR.refl _⟩, ⟨_, rfl, CoR.refl _⟩, ⟨_, rfl, CoR.refl _⟩, ⟨_, rfl, CoR.refl _⟩, trivial⟩, ⟨⟨_, rfl, CoO.refl _⟩, ⟨_, rfl, (co_push (fun h => h) (fun j hj => by obtain rfl : j = 0 := (by omega); exact co_strow (by omega) (by omega)))⟩, ⟨_, rfl, CoO.refl _⟩, trivial⟩⟩
        · skip
          have h3 := r3
          have h3 := of_decide_eq_false h3
          try simp only [Int.toNat_natCast] at h3
          obtain rfl : i = ps.length := by omega
          refine hw_exit ?_; show HW _ _ _ _ _; refine hw_seq ?_; refine hw_region (E := TrydE) Trydok ?_; refine rq rfl rfl rfl rfl rfl ?_
          refine rg_fcall rfl rfl rfl rfl rfl rfl good43 ((cSorted n (stRows n ps) (by rw [stRows_len]; omega))) (⟨⟨CoP.refl _, congrArg (HV.ref 900) (stRows_len _ _).symm, trivial⟩, trivial⟩) ⟨⟨_, rfl, arr_len rfl (stRows_len _ _).symm⟩, trivial⟩ rfl rfl ?_
          refine rs rfl rfl rfl rfl rfl ?_; refine rq rfl rfl rfl rfl rfl ?_; refine rg_nil ?_; show HW _ _ _ _ _; refine hw_ret ?_; refine ⟨.inr rfl, ?_⟩
          have he := startE_3 (n := n) (ps := ps) (by omega) (by omega) (fun j hj => hI j (by omega))
          exact ⟨_, _, _, _, rfl, (by (repeat' apply And.intro) <;> first | trivial | exact Nat.le_of_ble_eq_true rfl | rfl), rfl, (by (repeat' apply And.intro) <;> first | trivial | exact Nat.le_of_ble_eq_true rfl | rfl), by rw [he]; exact CoL.refl _⟩
end Go.Hx
end
section
namespace Go.Hx
def firstZ (n : Int) : Rw := (List.range n.toNat).map fun (i : Nat) => (i : Int)
theorem firstZ_len (n : Int) : (firstZ n).length = n.toNat := by unfold firstZ; simp
theorem co_first {n : Int} {k : Nat} (h : k < n.toNat) : CoP (.raw (.int .i64 (k : Int))) (lf zC (firstZ n) k 0) := by
  refine CoP.of_eq ?_
  show _ = PV.raw (.int .i64 ((firstZ n).getD k default))
  unfold firstZ
  rw [List.getD_eq_getElem?_getD, List.getElem?_map, List.getElem?_range h]
  rfl
theorem stR_at {n : Int} {i : Nat} {p : AS} {k : Nat} (h : k < n.toNat) : (stR n i p).getD k default = stV n i p k := by
  unfold stR
  rw [List.getD_eq_getElem?_getD, List.getElem?_map, List.getElem?_range h]
  rfl
theorem co_stv1 {n : Int} {i : Nat} {p : AS} {k : Nat} (h : k < n.toNat) (hh : hasI p (k : Int) = true) : CoP (.raw (.int .i64 (k : Int))) (lf zC (stR n i p) k 0) := by
  refine CoP.of_eq ?_
  show _ = PV.raw (.int .i64 ((stR n i p).getD k default))
  rw [stR_at h]
  unfold stV
  rw [if_pos hh]
theorem co_stv2 {n : Int} {i : Nat} {p : AS} {k : Nat} (h : k < n.toNat) (hh : hasI p (k : Int) = false) : CoP (.raw (.int .i64 (n + (i : Int) * n + (k : Int)))) (lf zC (stR n i p) k 0) := by
  refine CoP.of_eq ?_
  show _ = PV.raw (.int .i64 ((stR n i p).getD k default))
  rw [stR_at h]
  unfold stV
  rw [hh, if_neg (by decide)]
theorem co_strowR {n : Int} {ps : List AS} {i k : Nat} (hi : i < ps.length) (hk : k = n.toNat) : CoP (.sl k 1 false (lf zC (stR n i (ps.getD i default)))) (lf rC (stRows n ps) i 0) := by
  show CoP _ (zl ((stRows n ps).getD i default))
  rw [stRows_at hi]
  exact CoP.sl (by rw [stR_len, hk]) (.inl rfl) (fun h => h) fun a j ha hj => CoP.refl _
theorem p_shr {s : AS} {n : Int} (h0 : 0 ≤ n) (h1 : n ≤ 16) : sub s (fullI n) ↔ s >>> n.toNat = 0 := by
  unfold fullI
  rw [Nat.min_eq_left (by omega)]
  exact within_iff (by omega)
def stepR (l : List Rw) (x : Fd) (a b : Nat) : Bool := agrZ (l.getD a default) (l.getD b default) x.lhs && !(l.any fun r => decide (r = mixZ (l.getD a default) (l.getD b default) x.rhs))
theorem tab_eq {n k : Int} {l m : List Rw} (h : n = k) (h2 : l.length = m.length) (hI : ∀ j, j < l.length → l.getD j default = m.getD j default) : n = k ∧ l = m := ⟨h, list_eq h2 hI⟩
theorem mix_init {a b : Rw} {s : AS} {g : Nat → Nat → PV} {f : Nat → Nat → PV} {e : TypeId} (hf : ∀ i j, f i j = lf zC b i j) : CoO (.arr true 1 e (0 + b.length) (appF 0 g f)) (.arr true 1 e (0 + b.length) (lf zC (mixT a b s 0))) := by
  rw [← mixT_zero]
  exact ⟨fun h => h, rfl, rfl, rfl, fun i j _ _ => CoP.of_eq (by simp [appF, hf])⟩
theorem mix_fin {a b : Rw} {s : AS} {k m : Nat} (hk : k = b.length) (hm : m = b.length) : CoC (.one (.sl m 1 false (lf zC (mixT a b s k)))) (pZ (mixZ a b s)) := by
  subst hk
  rw [mixT_end]
  exact co_zl ((mixZ_len a b s).trans hm.symm)
end Go.Hx
end
