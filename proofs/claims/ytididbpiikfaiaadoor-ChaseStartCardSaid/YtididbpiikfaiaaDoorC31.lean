/- A part of the proof: lemmas for the theorem of this claim, merged by a program of ours out of X16, Ch15, X17, Ch16, X18, Hx21. -/
import Derived.ChangeArms
import Derived.OpenShut
import Derived.ProofKit
import Derived.WalkKit
import Derived.WideKeyArgs
import Derived.Test.YtididbpiikfaiaaDoorC15
import Derived.Test.YtididbpiikfaiaaDoorC30
set_option linter.all false
section
namespace Go.Hx
open Go.Proofs
set_option maxRecDepth 100000
theorem good26 : goodFn Tryd.prog 26 := ⟨Tryd.f26, Tryd.func26, by kernel_rfl, by kernel_rfl⟩
theorem cRun (n : Int) (l : List Rw) (p m : List Fd) : HPure Tryd.prog 26 [pT n l, pP (fdl p), pP (fdl m)] (prOf [pT (chaseE FU n l p m).2.1.1 (chaseE FU n l p m).2.1.2, pI (chaseE FU n l p m).2.2]) := by
  refine hpure_of (nt := 21) Trydok Tryd.func26 rfl rfl (Nat.le_of_ble_eq_true rfl) ?_; refine hw_seq ?_; refine hw_region (E := TrydE) Trydok ?_; refine rm 0 rfl rfl rfl rfl rfl rfl ?_; refine rm 1 rfl rfl rfl rfl rfl rfl ?_
  refine rq rfl rfl rfl rfl rfl ?_; refine rg_nil ?_; show HW _ _ _ _ _; refine hw_seq ?_; refine hw_region (E := TrydE) Trydok ?_; (iterate 3 refine rq rfl rfl rfl rfl rfl ?_)
  refine rc rfl rfl rfl rfl rfl rfl good24 (cSteps FU n l p m (fun h => mu_all h) (by decide)) (CoL.refl _) rfl rfl ?_; (iterate 4 refine rq rfl rfl rfl rfl rfl ?_); refine rm 2 rfl rfl rfl rfl rfl rfl ?_
  refine rq rfl rfl rfl rfl rfl ?_; refine rs rfl rfl rfl rfl rfl ?_; refine rq rfl rfl rfl rfl rfl ?_; refine rg_nil ?_; show HW _ _ _ _ _; refine hw_seq ?_; refine hw_region (E := TrydE) Trydok ?_
  (iterate 2 refine rq rfl rfl rfl rfl rfl ?_); refine rs rfl rfl rfl rfl rfl ?_; refine rq rfl rfl rfl rfl rfl ?_; refine rg_nil ?_; show HW _ _ _ _ _; refine hw_ret ?_; refine ⟨.inr rfl, ?_⟩
  exact ⟨_, _, _, _, rfl, (by (repeat' apply And.intro) <;> first | trivial | exact Nat.le_of_ble_eq_true rfl | rfl), rfl, (by (repeat' apply And.intro) <;> first | trivial | exact Nat.le_of_ble_eq_true rfl | rfl), CoL.refl _⟩
theorem good31 : goodFn Tryd.prog 31 := ⟨Tryd.f31, Tryd.func31, by kernel_rfl, by kernel_rfl⟩
theorem cSat (n : Int) (l : List Rw) (p m : List Fd) : HPure Tryd.prog 31 [pT n l, pP (fdl p), pP (fdl m)] (prOf [pB (decide (ckE n l p m = 0) && (nextE l p m).isNone)]) := by
  refine hpure_of (nt := 23) Trydok Tryd.func31 rfl rfl (Nat.le_of_ble_eq_true rfl) ?_; refine hw_seq ?_; refine hw_region (E := TrydE) Trydok ?_; refine rm 0 rfl rfl rfl rfl rfl rfl ?_; refine rq rfl rfl rfl rfl rfl ?_
  refine rg_nil ?_; show HW _ _ _ _ _; (iterate 2 refine hw_seq ?_); refine hw_region (E := TrydE) Trydok ?_; (iterate 3 refine rq rfl rfl rfl rfl rfl ?_)
  refine rc rfl rfl rfl rfl rfl rfl good47 (cChecked n l p m) (CoL.refl _) rfl rfl ?_; refine rq rfl rfl rfl rfl rfl ?_; refine rg_nil ?_; show HW _ _ _ _ _; refine hw_cond _ rfl (fun r0 => ?_) (fun r0 => ?_)
  · skip
    have h0 := r0
    have h0 := of_decide_eq_false (not_t h0)
    try simp only [Int.toNat_natCast] at h0
    refine hw_seq ?_; refine hw_region (E := TrydE) Trydok ?_; refine rq rfl rfl rfl rfl rfl ?_; refine rg_nil ?_; show HW _ _ _ _ _; refine hw_ret ?_; refine ⟨.inr rfl, ?_⟩
    exact ⟨_, _, _, _, rfl, (by (repeat' apply And.intro) <;> first | trivial | exact Nat.le_of_ble_eq_true rfl | rfl), rfl, (by (repeat' apply And.intro) <;> first | trivial | exact Nat.le_of_ble_eq_true rfl | rfl), ⟨ccb (by rw [decide_eq_false (by assumption)]; rfl), trivial⟩⟩
  · skip
    have h0 := r0
    have h0 := of_decide_eq_true (not_f h0)
    try simp only [Int.toNat_natCast] at h0
    have hck : ckE n l p m = 0 := by assumption
    refine hw_skip ?_; show HW _ _ _ _ _; refine hw_seq ?_; refine hw_region (E := TrydE) Trydok ?_; (iterate 3 refine rq rfl rfl rfl rfl rfl ?_)
    refine rc rfl rfl rfl rfl rfl rfl good49 (cNext n l p m (ckE_ok hck).1) (CoL.refl _) rfl rfl ?_; (iterate 3 refine rq rfl rfl rfl rfl rfl ?_); refine rm 1 rfl rfl rfl rfl rfl rfl ?_; refine rs rfl rfl rfl rfl rfl ?_
    refine rq rfl rfl rfl rfl rfl ?_; refine rg_nil ?_; show HW _ _ _ _ _; refine hw_seq ?_; refine hw_region (E := TrydE) Trydok ?_; (iterate 3 refine rq rfl rfl rfl rfl rfl ?_); refine rg_nil ?_; show HW _ _ _ _ _
    refine hw_ret ?_; refine ⟨.inr rfl, ?_⟩
    exact ⟨_, _, _, _, rfl, (by (repeat' apply And.intro) <;> first | trivial | exact Nat.le_of_ble_eq_true rfl | rfl), rfl, (by (repeat' apply And.intro) <;> first | trivial | exact Nat.le_of_ble_eq_true rfl | rfl), ⟨ccb (by rw [decide_eq_true hck]; cases nextE l p m <;> rfl), trivial⟩⟩
theorem good28 : goodFn Tryd.prog 28 := ⟨Tryd.f28, Tryd.func28, by kernel_rfl, by kernel_rfl⟩
theorem cImplT (n : Int) (p m : List Fd) (x : Fd) : HPure Tryd.prog 28 [pI n, pP (fdl p), pP (fdl m), x.pc] (prOf [pB (implE n p m x).1, pI (implE n p m x).2]) := by
  refine hpure_of (nt := 81) Trydok Tryd.func28 rfl rfl (Nat.le_of_ble_eq_true rfl) ?_; refine hw_seq ?_; refine hw_region (E := TrydE) Trydok ?_; refine rm 0 rfl rfl rfl rfl rfl rfl ?_; (iterate 2 refine rq rfl rfl rfl rfl rfl ?_)
  refine rg_nil ?_; show HW _ _ _ _ _; (iterate 2 refine hw_seq ?_); refine hw_region (E := TrydE) Trydok ?_; (iterate 3 refine rq rfl rfl rfl rfl rfl ?_)
  refine rc rfl rfl rfl rfl rfl rfl good54 (cBValid n p m) (CoL.refl _) rfl rfl ?_; refine rq rfl rfl rfl rfl rfl ?_; refine rg_nil ?_; show HW _ _ _ _ _; refine hw_seq ?_; refine hw_region (E := TrydE) Trydok ?_
  (iterate 2 refine rq rfl rfl rfl rfl rfl ?_); refine rg_nil ?_; show HW _ _ _ _ _; refine hw_cond _ rfl (fun r0 => ?_) (fun r0 => ?_)
  · skip
    have h0 := r0
    have h0 := of_decide_eq_false (not_t h0)
    try simp only [Int.toNat_natCast] at h0
    refine hw_seq ?_; refine hw_region (E := TrydE) Trydok ?_; (iterate 3 refine rq rfl rfl rfl rfl rfl ?_); refine rg_nil ?_; show HW _ _ _ _ _; refine hw_ret ?_; refine ⟨.inr rfl, ?_⟩
    have he : implE n p m x = (false, bErr n p m) := if_neg (by assumption)
    exact ⟨_, _, _, _, rfl, (by (repeat' apply And.intro) <;> first | trivial | exact Nat.le_of_ble_eq_true rfl | rfl), rfl, (by (repeat' apply And.intro) <;> first | trivial | exact Nat.le_of_ble_eq_true rfl | rfl), by rw [he]; exact CoL.refl _⟩
  · skip
    have h0 := r0
    have h0 := of_decide_eq_true (not_f h0)
    try simp only [Int.toNat_natCast] at h0
    have hbe : bErr n p m = 0 := by assumption
    obtain ⟨hz0, hz1, _, _⟩ := bErr_ok hbe
    refine hw_skip ?_; show HW _ _ _ _ _; (iterate 2 refine hw_seq ?_); refine hw_region (E := TrydE) Trydok ?_; (iterate 8 refine rq rfl rfl rfl rfl rfl ?_); refine rg_nil ?_; show HW _ _ _ _ _
    refine hw_cond _ rfl (fun r1 => ?_) (fun r1 => ?_)
    · skip
      have h1 := r1
      have h1 := of_decide_eq_false (not_t h1)
      try simp only [Int.toNat_natCast] at h1
      have hu : ¬ inU n x = true := fun e => absurd (shr_iff.2 e) (by assumption)
      refine hw_seq ?_; refine hw_region (E := TrydE) Trydok ?_; (iterate 2 refine rq rfl rfl rfl rfl rfl ?_); refine rg_nil ?_; show HW _ _ _ _ _; refine hw_ret ?_; refine ⟨.inr rfl, ?_⟩
      have he : implE n p m x = (false, 1) := (if_pos hbe).trans (if_neg hu)
      exact ⟨_, _, _, _, rfl, (by (repeat' apply And.intro) <;> first | trivial | exact Nat.le_of_ble_eq_true rfl | rfl), rfl, (by (repeat' apply And.intro) <;> first | trivial | exact Nat.le_of_ble_eq_true rfl | rfl), by rw [he]; exact CoL.refl _⟩
    · skip
      have h1 := r1
      have h1 := of_decide_eq_true (not_f h1)
      try simp only [Int.toNat_natCast] at h1
      have hu := shr_iff.1 (by assumption)
      refine hw_skip ?_; show HW _ _ _ _ _; refine hw_seq ?_; refine hw_region (E := TrydE) Trydok ?_; (iterate 2 refine rq rfl rfl rfl rfl rfl ?_); refine rq rfl rfl rfl rfl rfl ?_ (hp := ⟨full_pre hz0 hz1, full_pre2 hz0 hz1⟩)
      refine rq rfl rfl rfl rfl rfl ?_; refine rg_nil ?_; show HW _ _ _ _ _; refine hw_seq ?_; refine hw_regionN [0, 1, 2, 3, 4, 5, 6, 7, 8, 9, 10, 11, 12, 13] [14, 15, 16, 17, 18, 19, 20] rfl ?_
      refine rn_reg (E := TrydE) Trydok ?_; (iterate 13 refine rq rfl rfl rfl rfl rfl ?_); refine rm 1 rfl rfl rfl rfl rfl rfl ?_; refine rg_nil ?_; refine rn_he ?_; refine he_freeze 49 rfl rfl rfl ?_; refine he_done ?_
      refine rn_reg (E := TrydE) (L1 := [14, 15, 16, 17, 18, 19, 20]) (L2 := []) Trydok ?_; refine rc rfl rfl rfl rfl rfl rfl good19 (cStart n (goalS n x)) (⟨CoC.refl _, CoC.one (co_lit2 co_g1 (co_g2 hz0 hz1)), trivial⟩) rfl rfl ?_
      (iterate 3 refine rq rfl rfl rfl rfl rfl ?_); refine rm 2 rfl rfl rfl rfl rfl rfl ?_; refine rs rfl rfl rfl rfl rfl ?_; refine rq rfl rfl rfl rfl rfl ?_; refine rg_nil ?_; refine rn_nil ?_; show HW _ _ _ _ _
      (iterate 2 refine hw_seq ?_); refine hw_region (E := TrydE) Trydok ?_; (iterate 2 refine rq rfl rfl rfl rfl rfl ?_); refine rg_nil ?_; show HW _ _ _ _ _; refine hw_cond _ rfl (fun r2 => ?_) (fun r2 => ?_)
      · skip
        have h2 := r2
        have h2 := of_decide_eq_false (not_t h2)
        try simp only [Int.toNat_natCast] at h2
        refine hw_seq ?_; refine hw_region (E := TrydE) Trydok ?_; (iterate 3 refine rq rfl rfl rfl rfl rfl ?_); refine rg_nil ?_; show HW _ _ _ _ _; refine hw_ret ?_; refine ⟨.inr rfl, ?_⟩
        have he : implE n p m x = (false, (startE n (goalS n x)).2.2) := (if_pos hbe).trans ((if_pos hu).trans (if_neg (by assumption)))
        exact ⟨_, _, _, _, rfl, (by (repeat' apply And.intro) <;> first | trivial | exact Nat.le_of_ble_eq_true rfl | rfl), rfl, (by (repeat' apply And.intro) <;> first | trivial | exact Nat.le_of_ble_eq_true rfl | rfl), by rw [he]; exact CoL.refl _⟩
      · skip
        have h2 := r2
        have h2 := of_decide_eq_true (not_f h2)
        try simp only [Int.toNat_natCast] at h2
        have hs0 : (startE n (goalS n x)).2.2 = 0 := by assumption
        refine hw_skip ?_; show HW _ _ _ _ _; refine hw_seq ?_; refine hw_region (E := TrydE) Trydok ?_; (iterate 3 refine rq rfl rfl rfl rfl rfl ?_)
        refine rc rfl rfl rfl rfl rfl rfl good26 (cRun (startE n (goalS n x)).1 (startE n (goalS n x)).2.1 p m) (CoL.refl _) rfl rfl ?_; (iterate 3 refine rq rfl rfl rfl rfl rfl ?_); refine rm 3 rfl rfl rfl rfl rfl rfl ?_
        refine rs rfl rfl rfl rfl rfl ?_; refine rq rfl rfl rfl rfl rfl ?_; refine rg_nil ?_; show HW _ _ _ _ _; (iterate 2 refine hw_seq ?_); refine hw_region (E := TrydE) Trydok ?_; (iterate 2 refine rq rfl rfl rfl rfl rfl ?_)
        refine rg_nil ?_; show HW _ _ _ _ _; refine hw_cond _ rfl (fun r3 => ?_) (fun r3 => ?_)
        · skip
          have h3 := r3
          have h3 := of_decide_eq_false (not_t h3)
          try simp only [Int.toNat_natCast] at h3
          refine hw_seq ?_; refine hw_region (E := TrydE) Trydok ?_; (iterate 3 refine rq rfl rfl rfl rfl rfl ?_); refine rg_nil ?_; show HW _ _ _ _ _; refine hw_ret ?_; refine ⟨.inr rfl, ?_⟩
          have he : implE n p m x = (false, (chaseE FU (startE n (goalS n x)).1 (startE n (goalS n x)).2.1 p m).2.2) := (if_pos hbe).trans ((if_pos hu).trans ((if_pos hs0).trans (if_neg (by assumption))))
          exact ⟨_, _, _, _, rfl, (by (repeat' apply And.intro) <;> first | trivial | exact Nat.le_of_ble_eq_true rfl | rfl), rfl, (by (repeat' apply And.intro) <;> first | trivial | exact Nat.le_of_ble_eq_true rfl | rfl), by rw [he]; exact CoL.refl _⟩
        · skip
          have h3 := r3
          have h3 := of_decide_eq_true (not_f h3)
          try simp only [Int.toNat_natCast] at h3
          have hc0 : (chaseE FU (startE n (goalS n x)).1 (startE n (goalS n x)).2.1 p m).2.2 = 0 := by assumption
          refine hw_skip ?_; show HW _ _ _ _ _; refine hw_seq ?_; refine hw_region (E := TrydE) Trydok ?_; refine rq rfl rfl rfl rfl rfl ?_; refine rm 4 rfl rfl rfl rfl rfl rfl ?_; refine rq rfl rfl rfl rfl rfl ?_; refine rg_nil ?_
          show HW _ _ _ _ _; (iterate 2 refine hw_seq ?_); refine hw_region (E := TrydE) Trydok ?_; (iterate 3 refine rq rfl rfl rfl rfl rfl ?_); refine rg_nil ?_; show HW _ _ _ _ _; refine hw_block ?_
          refine hw_loopK (ι := Nat) ⟨[(14, some _), (15, some _), (69, some _)], [(3, some _)]⟩ ⟨⟨⟨_, rfl, CoR.refl _⟩, ⟨_, rfl, CoR.refl _⟩, ⟨_, rfl, CoR.refl _⟩, trivial⟩, ⟨⟨_, rfl, CoO.refl _⟩, trivial⟩⟩ (fun k => ⟨[(70, some (vI k))], [(4, some (.arr true 1 3 n.toNat (lf zC (stT n 0 (fullS 32) k))))]⟩) (fun k => k ≤ n.toNat) (fun k => n.toNat - k) (0) (Nat.zero_le _) ⟨⟨⟨_, rfl, (by first | exact CoR.refl _ | exact coi (by omega) | exact cob (by simp_all))⟩, trivial⟩, ⟨⟨_, rfl, (stT_zero rfl (fun _ => rfl))⟩, trivial⟩⟩ ?_
          rintro k hk
          refine hw_seq ?_; refine hw_region (E := TrydE) Trydok ?_; refine rq rfl rfl rfl rfl rfl ?_; refine rg_nil ?_; show HW _ _ _ _ _; refine hw_seq ?_; refine hw_cond _ rfl (fun r4 => ?_) (fun r4 => ?_)
          · skip
            have h4 := r4
            have h4 := of_decide_eq_true h4
            try simp only [Int.toNat_natCast] at h4
            refine hw_skip ?_; show HW _ _ _ _ _; refine hw_seq ?_; refine hw_block ?_; refine hw_seq ?_; refine hw_region (E := TrydE) Trydok ?_; (iterate 2 refine rq rfl rfl rfl rfl rfl ?_); refine rg_nil ?_; show HW _ _ _ _ _
            refine hw_region (E := TrydE) Trydok ?_; (iterate 4 refine rq rfl rfl rfl rfl rfl ?_); refine rs rfl rfl rfl rfl rfl ?_; refine rg_nil ?_; show HW _ _ _ _ _; refine hw_region (E := TrydE) Trydok ?_
            (iterate 2 refine rq rfl rfl rfl rfl rfl ?_); refine rg_nil ?_; refine ⟨k + 1, ?_, ?_, ?_⟩
            · show k + 1 ≤ _; omega
            · first | omega | (dsimp only; omega)
            · exact ⟨⟨⟨_, rfl, (by first | exact CoR.refl _ | exact coi (by omega) | exact cob (by simp_all))⟩, ⟨_, rfl, CoR.refl _⟩, ⟨_, rfl, CoR.refl _⟩, ⟨_, rfl, CoR.refl _⟩, trivial⟩, ⟨⟨_, rfl, (co_st0 (full32 (by omega)) rfl (by omega))⟩, ⟨_, rfl, CoO.refl _⟩, trivial⟩⟩
          · skip
            have h4 := r4
            have h4 := of_decide_eq_false h4
            try simp only [Int.toNat_natCast] at h4
            refine hw_exit ?_; show HW _ _ _ _ _; refine hw_seq ?_; refine hw_freeze 15 rfl rfl rfl ?_; refine hw_region (E := TrydE) Trydok ?_; (iterate 2 refine rq rfl rfl rfl rfl rfl ?_)
            refine rc rfl rfl rfl rfl rfl rfl good16 (cCont (chaseE FU (startE n (goalS n x)).1 (startE n (goalS n x)).2.1 p m).2.1.1 (chaseE FU (startE n (goalS n x)).1 (startE n (goalS n x)).2.1 p m).2.1.2 (firstZ n)) (⟨CoC.refl _, co_firstT hz1 (by omega), trivial⟩) rfl rfl ?_
            (iterate 2 refine rq rfl rfl rfl rfl rfl ?_); refine rg_nil ?_; show HW _ _ _ _ _; refine hw_ret ?_; refine ⟨.inr rfl, ?_⟩
            have he : implE n p m x = ((chaseE FU (startE n (goalS n x)).1 (startE n (goalS n x)).2.1 p m).2.1.2.any (fun r => decide (r = firstZ n)), 0) := (if_pos hbe).trans ((if_pos hu).trans ((if_pos hs0).trans (if_pos hc0)))
            exact ⟨_, _, _, _, rfl, (by (repeat' apply And.intro) <;> first | trivial | exact Nat.le_of_ble_eq_true rfl | rfl), rfl, (by (repeat' apply And.intro) <;> first | trivial | exact Nat.le_of_ble_eq_true rfl | rfl), by rw [he]; exact CoL.refl _⟩
end Go.Hx
end
section
namespace Go.Hx
open Go.Proofs
set_option maxRecDepth 100000
def sT : List Rw := [[0, 1, 5], [0, 7, 2]]
def fdX : List Fd := [⟨1, 2⟩]
theorem ex_start : startE 3 [3, 5] = (3, sT, 0) := by decide +kernel
theorem ex_runF : (chaseE FU 3 sT fdX []).2 = ((3, [[0, 1, 2], [0, 1, 5]]), 0) := by decide +kernel
theorem ex_runM : (chaseE FU 3 sT [] fdX).2 = ((3, [[0, 1, 2], [0, 1, 5], [0, 7, 2], [0, 7, 5]]), 0) := by decide +kernel
theorem ex_imp1 : implE 3 fdX [] ⟨1, 2⟩ = (true, 0) := by decide +kernel
theorem ex_imp2 : implE 3 fdX [] ⟨2, 1⟩ = (false, 0) := by decide +kernel
theorem cStartX : HPure Tryd.prog 19 [pI 3, pP (asl [3, 5])] (prOf [pT 3 sT, pI 0]) := by
  have h := cStart 3 [3, 5]
  rw [ex_start] at h
  exact h
theorem cRunX (n : Int) (l : List Rw) (p m : List Fd) (n' : Int) (l' : List Rw) (e : Int) (h : (chaseE FU n l p m).2 = ((n', l'), e)) : HPure Tryd.prog 26 [pT n l, pP (fdl p), pP (fdl m)] (prOf [pT n' l', pI e]) := by
  have h2 := cRun n l p m
  rw [h] at h2
  exact h2
theorem cImpX (n : Int) (p m : List Fd) (x : Fd) (b : Bool) (e : Int) (h : implE n p m x = (b, e)) : HPure Tryd.prog 28 [pI n, pP (fdl p), pP (fdl m), x.pc] (prOf [pB b, pI e]) := by
  have h2 := cImplT n p m x
  rw [h] at h2
  exact h2
theorem cSameX (n : Int) (l : List Rw) : HPure Tryd.prog 22 [pT n l, pT n l] (prOf [pB true]) := by
  have h := cSameT n n l l
  rw [decide_eq_true ⟨rfl, rfl⟩] at h
  exact h
theorem co_fd1 {x : Fd} {cl : Bool} {f : Nat → Nat → PV} (h0 : CoP (f 0 0) (x.c 0)) (h1 : CoP (f 0 1) (x.c 1)) : CoP (.sl 1 2 cl f) (fdl [x]) :=
  CoP.sl rfl (.inl rfl) (fun h => by cases h) fun i j hi hj => by
    obtain rfl : i = 0 := by omega
    rcases (by omega : j = 0 ∨ j = 1) with rfl | rfl
    · exact h0
    · exact h1
theorem co_fd0 {s : Nat} {f : Nat → Nat → PV} : CoP (.sl 0 s true f) (fdl []) := CoP.sl rfl (.inr rfl) (fun h => by cases h) fun i j hi _ => absurd hi (Nat.not_lt_zero i)
theorem co_z3 {a b c : Int} {cl : Bool} {f : Nat → Nat → PV} (h0 : CoP (f 0 0) (.raw (.int .i64 a))) (h1 : CoP (f 1 0) (.raw (.int .i64 b))) (h2 : CoP (f 2 0) (.raw (.int .i64 c))) : CoP (.sl 3 1 cl f) (zl [a, b, c]) :=
  CoP.sl rfl (.inl rfl) (fun h => by cases h) fun i j hi hj => by
    obtain rfl : j = 0 := by omega
    rcases (by omega : i = 0 ∨ i = 1 ∨ i = 2) with rfl | rfl | rfl
    · exact h0
    · exact h1
    · exact h2
theorem co_r2 {a b : Rw} {cl : Bool} {f : Nat → Nat → PV} (h0 : CoP (f 0 0) (zl a)) (h1 : CoP (f 1 0) (zl b)) : CoP (.sl 2 1 cl f) (rl [a, b]) :=
  CoP.sl rfl (.inl rfl) (fun h => by cases h) fun i j hi hj => by
    obtain rfl : j = 0 := by omega
    rcases (by omega : i = 0 ∨ i = 1) with rfl | rfl
    · exact h0
    · exact h1
theorem co_r4 {a b c d : Rw} {cl : Bool} {f : Nat → Nat → PV} (h0 : CoP (f 0 0) (zl a)) (h1 : CoP (f 1 0) (zl b)) (h2 : CoP (f 2 0) (zl c)) (h3 : CoP (f 3 0) (zl d)) : CoP (.sl 4 1 cl f) (rl [a, b, c, d]) :=
  CoP.sl rfl (.inl rfl) (fun h => by cases h) fun i j hi hj => by
    obtain rfl : j = 0 := by omega
    rcases (by omega : i = 0 ∨ i = 1 ∨ i = 2 ∨ i = 3) with rfl | rfl | rfl | rfl
    · exact h0
    · exact h1
    · exact h2
    · exact h3
end Go.Hx
end
section
namespace Go.Hx
open Go.Proofs
set_option maxRecDepth 100000
theorem good11 : goodFn Tryd.prog 11 := ⟨Tryd.f11, Tryd.func11, by kernel_rfl, by kernel_rfl⟩
theorem cAwake  : HPure Tryd.prog 11 [] (prOf [pB true]) := by
  refine hpure_of (nt := 98) Trydok Tryd.func11 rfl rfl (Nat.le_of_ble_eq_true rfl) ?_; refine hw_seq ?_; refine hw_region (E := TrydE) Trydok ?_; refine rq rfl rfl rfl rfl rfl ?_; refine rg_nil ?_; show HW _ _ _ _ _
  refine hw_seq ?_; refine hw_regionN [0] [1, 2, 3, 4, 5, 6, 7] rfl ?_; refine rn_reg (E := TrydE) Trydok ?_; refine rm 0 rfl rfl rfl rfl rfl rfl ?_; refine rg_nil ?_; refine rn_he ?_; refine he_freeze 14 rfl rfl rfl ?_
  refine he_done ?_; refine rn_reg (E := TrydE) (L1 := [1, 2, 3, 4, 5, 6, 7]) (L2 := []) Trydok ?_; refine rc rfl rfl rfl rfl rfl rfl good19 (cStartX) (⟨CoC.refl _, CoC.one (co_lit2 (CoP.refl _) (CoP.refl _)), trivial⟩) rfl rfl ?_
  (iterate 3 refine rq rfl rfl rfl rfl rfl ?_); refine rm 1 rfl rfl rfl rfl rfl rfl ?_; refine rs rfl rfl rfl rfl rfl ?_; refine rq rfl rfl rfl rfl rfl ?_; refine rg_nil ?_; refine rn_nil ?_; show HW _ _ _ _ _
  (iterate 2 refine hw_seq ?_); refine hw_regionN [0, 1, 2, 3, 4, 5] [6, 7, 8, 9, 10] rfl ?_; refine rn_reg (E := TrydE) Trydok ?_; (iterate 4 refine rq rfl rfl rfl rfl rfl ?_); refine rm 2 rfl rfl rfl rfl rfl rfl ?_
  refine rm 3 rfl rfl rfl rfl rfl rfl ?_; refine rg_nil ?_; refine rn_he ?_; refine he_freeze 22 rfl rfl rfl ?_; refine he_freeze 23 rfl rfl rfl ?_; refine he_done ?_
  refine rn_reg (E := TrydE) (L1 := [6]) (L2 := [7, 8, 9, 10]) Trydok ?_; refine rm 4 rfl rfl rfl rfl rfl rfl ?_; refine rg_nil ?_; refine rn_he ?_; refine he_freeze 24 rfl rfl rfl ?_; refine he_done ?_
  refine rn_reg (E := TrydE) (L1 := [7, 8, 9, 10]) (L2 := []) Trydok ?_; refine rq rfl rfl rfl rfl rfl ?_
  refine rc rfl rfl rfl rfl rfl rfl good22 (cSameX 3 sT) (⟨CoC.refl _, CoC.agg ⟨CoP.refl _, co_r2 (co_z3 (CoP.refl _) (CoP.refl _) (CoP.refl _)) (co_z3 (CoP.refl _) (CoP.refl _) (CoP.refl _)), trivial⟩, trivial⟩) rfl rfl ?_
  (iterate 2 refine rq rfl rfl rfl rfl rfl ?_); refine rg_nil ?_; refine rn_nil ?_; show HW _ _ _ _ _; refine hw_cond _ rfl (fun e => by cases e) (fun _ => ?_); refine hw_skip ?_; show HW _ _ _ _ _; refine hw_seq ?_
  refine hw_region (E := TrydE) Trydok ?_; refine rq rfl rfl rfl rfl rfl ?_; refine rm 5 rfl rfl rfl rfl rfl rfl ?_; refine rq rfl rfl rfl rfl rfl ?_; refine rm 6 rfl rfl rfl rfl rfl rfl ?_
  (iterate 2 refine rq rfl rfl rfl rfl rfl ?_); refine rg_nil ?_; refine hw_freeze 3 rfl rfl rfl ?_; refine hw_freeze 4 rfl rfl rfl ?_; show HW _ _ _ _ _; refine hw_seq ?_; refine hw_region (E := TrydE) Trydok ?_
  (iterate 2 refine rq rfl rfl rfl rfl rfl ?_); refine rc rfl rfl rfl rfl rfl rfl good26 (cRunX 3 sT fdX [] _ _ _ ex_runF) (⟨CoC.refl _, CoC.one (co_fd1 (CoP.refl _) (CoP.refl _)), CoC.one co_fd0, trivial⟩) rfl rfl ?_
  (iterate 3 refine rq rfl rfl rfl rfl rfl ?_); refine rm 7 rfl rfl rfl rfl rfl rfl ?_; refine rs rfl rfl rfl rfl rfl ?_; refine rq rfl rfl rfl rfl rfl ?_; refine rg_nil ?_; show HW _ _ _ _ _; refine hw_seq ?_
  refine hw_region (E := TrydE) Trydok ?_; (iterate 2 refine rq rfl rfl rfl rfl rfl ?_)
  refine rc rfl rfl rfl rfl rfl rfl good26 (cRunX 3 sT [] fdX _ _ _ ex_runM) (⟨CoC.refl _, CoC.one co_fd0, CoC.one (co_fd1 (CoP.refl _) (CoP.refl _)), trivial⟩) rfl rfl ?_; (iterate 3 refine rq rfl rfl rfl rfl rfl ?_)
  refine rm 8 rfl rfl rfl rfl rfl rfl ?_; refine rs rfl rfl rfl rfl rfl ?_; refine rq rfl rfl rfl rfl rfl ?_; refine rg_nil ?_; show HW _ _ _ _ _; refine hw_seq ?_; refine hw_region (E := TrydE) Trydok ?_
  (iterate 4 refine rq rfl rfl rfl rfl rfl ?_); refine rc rfl rfl rfl rfl rfl rfl good28 (cImpX 3 fdX [] ⟨1, 2⟩ _ _ ex_imp1) (⟨CoC.refl _, CoC.one (co_fd1 (CoP.refl _) (CoP.refl _)), CoC.one co_fd0, CoC.refl _, trivial⟩) rfl rfl ?_
  (iterate 5 refine rq rfl rfl rfl rfl rfl ?_); refine rg_nil ?_; show HW _ _ _ _ _; refine hw_seq ?_; refine hw_region (E := TrydE) Trydok ?_; (iterate 2 refine rq rfl rfl rfl rfl rfl ?_)
  refine rc rfl rfl rfl rfl rfl rfl good28 (cImpX 3 fdX [] ⟨2, 1⟩ _ _ ex_imp2) (⟨CoC.refl _, CoC.one (co_fd1 (CoP.refl _) (CoP.refl _)), CoC.one co_fd0, CoC.refl _, trivial⟩) rfl rfl ?_; (iterate 5 refine rq rfl rfl rfl rfl rfl ?_)
  refine rg_nil ?_; show HW _ _ _ _ _; refine hw_seq ?_
  refine hw_regionN [0, 1, 2, 3, 4, 5, 6, 7, 8, 9, 10, 11, 12, 13, 14, 15, 16, 17, 18, 19, 20, 21, 22, 23, 24] [25, 26, 27, 28, 29, 30, 31, 32, 33, 34, 35, 36, 37, 38, 39] rfl ?_; refine rn_reg (E := TrydE) Trydok ?_
  (iterate 23 refine rq rfl rfl rfl rfl rfl ?_); refine rm 9 rfl rfl rfl rfl rfl rfl ?_; refine rm 10 rfl rfl rfl rfl rfl rfl ?_; refine rg_nil ?_; refine rn_he ?_; refine he_freeze 82 rfl rfl rfl ?_
  refine he_freeze 83 rfl rfl rfl ?_; refine he_done ?_; refine rn_reg (E := TrydE) (L1 := [25]) (L2 := [26, 27, 28, 29, 30, 31, 32, 33, 34, 35, 36, 37, 38, 39]) Trydok ?_; refine rm 11 rfl rfl rfl rfl rfl rfl ?_; refine rg_nil ?_
  refine rn_he ?_; refine he_freeze 84 rfl rfl rfl ?_; refine he_done ?_; refine rn_reg (E := TrydE) (L1 := [26, 27, 28, 29, 30, 31, 32, 33, 34]) (L2 := [35, 36, 37, 38, 39]) Trydok ?_; refine rq rfl rfl rfl rfl rfl ?_
  refine rc rfl rfl rfl rfl rfl rfl good22 (cSameX 3 [[0, 1, 2], [0, 1, 5]]) (⟨CoC.refl _, CoC.agg ⟨CoP.refl _, co_r2 (co_z3 (CoP.refl _) (CoP.refl _) (CoP.refl _)) (co_z3 (CoP.refl _) (CoP.refl _) (CoP.refl _)), trivial⟩, trivial⟩) rfl rfl ?_
  (iterate 3 refine rq rfl rfl rfl rfl rfl ?_); refine rm 12 rfl rfl rfl rfl rfl rfl ?_; refine rm 13 rfl rfl rfl rfl rfl rfl ?_; refine rm 14 rfl rfl rfl rfl rfl rfl ?_; refine rm 15 rfl rfl rfl rfl rfl rfl ?_; refine rg_nil ?_
  refine rn_he ?_; refine he_freeze 90 rfl rfl rfl ?_; refine he_freeze 91 rfl rfl rfl ?_; refine he_freeze 92 rfl rfl rfl ?_; refine he_freeze 93 rfl rfl rfl ?_; refine he_done ?_
  refine rn_reg (E := TrydE) (L1 := [35]) (L2 := [36, 37, 38, 39]) Trydok ?_; refine rm 16 rfl rfl rfl rfl rfl rfl ?_; refine rg_nil ?_; refine rn_he ?_; refine he_freeze 94 rfl rfl rfl ?_; refine he_done ?_
  refine rn_reg (E := TrydE) (L1 := [36, 37, 38, 39]) (L2 := []) Trydok ?_; refine rq rfl rfl rfl rfl rfl ?_
  refine rc rfl rfl rfl rfl rfl rfl good22 (cSameX 3 [[0, 1, 2], [0, 1, 5], [0, 7, 2], [0, 7, 5]]) (⟨CoC.refl _, CoC.agg ⟨CoP.refl _, co_r4 (co_z3 (CoP.refl _) (CoP.refl _) (CoP.refl _)) (co_z3 (CoP.refl _) (CoP.refl _) (CoP.refl _)) (co_z3 (CoP.refl _) (CoP.refl _) (CoP.refl _)) (co_z3 (CoP.refl _) (CoP.refl _) (CoP.refl _)), trivial⟩, trivial⟩) rfl rfl ?_
  (iterate 2 refine rq rfl rfl rfl rfl rfl ?_); refine rg_nil ?_; refine rn_nil ?_; show HW _ _ _ _ _; refine hw_ret ?_; refine ⟨.inr rfl, ?_⟩
  exact ⟨_, _, _, _, rfl, (by (repeat' apply And.intro) <;> first | trivial | exact Nat.le_of_ble_eq_true rfl | rfl), rfl, (by (repeat' apply And.intro) <;> first | trivial | exact Nat.le_of_ble_eq_true rfl | rfl), CoL.refl _⟩
end Go.Hx
end
section
namespace Go.Hx
theorem start_tok (n : Int) (ps : List AS) : tok (startE n ps).1 (startE n ps).2.1 = true := by
  have h0 : tok 0 [] = true := by decide +kernel
  unfold startE
  split
  · exact h0
  · split
    · exact h0
    · split
      · refine tok_canon (by omega) (by omega) ?_ fun r hr => ?_
        · have := canon_len (stRows n ps)
          rw [stRows_len] at this
          show (canon (stRows n ps)).length ≤ 256
          omega
        · unfold stRows at hr
          rw [List.mem_map] at hr
          obtain ⟨i, hi, rfl⟩ := hr
          refine ⟨stR_len _ _ _, fun z hz => ?_⟩
          unfold stR at hz
          rw [List.mem_map] at hz
          obtain ⟨c, hc, rfl⟩ := hz
          unfold stV
          split
          · omega
          · have := (mulB (n := n) (i := i) (by omega) (by omega) (by have := List.mem_range.1 hi; omega)).1
            omega
      · exact h0
theorem co_sets {l : List AS} {k : Nat} (hk : k = l.length) {cl : Bool} : CoP (.sl k 1 false (lf sC l)) (asl l) := by
  subst hk
  exact CoP.refl _
end Go.Hx
end
section
namespace Go.Hx
open Go.Proofs
set_option maxRecDepth 100000
theorem good4 : goodFn Tryd.prog 4 := ⟨Tryd.f4, Tryd.func4, by kernel_rfl, by kernel_rfl⟩
theorem cLawStart (n : Int) (ps : List AS) : HPure Tryd.prog 4 [pI n, pP (asl ps)] (prOf [pB true]) := by
  refine hpure_of (nt := 56) Trydok Tryd.func4 rfl rfl (Nat.le_of_ble_eq_true rfl) ?_; refine hw_seq ?_
  refine hw_bt 1 rfl fun hn => ?_
  have htk := start_tok n ps
  refine hw_region (E := TrydE) Trydok ?_; refine rq rfl rfl rfl rfl rfl ?_; refine rg_nil ?_; show HW _ _ _ _ _; (iterate 2 refine hw_seq ?_); refine hw_region (E := TrydE) Trydok ?_
  refine rc rfl rfl rfl rfl rfl rfl good11 (cAwake) (CoL.refl _) rfl rfl ?_; (iterate 6 refine rq rfl rfl rfl rfl rfl ?_); refine rg_nil ?_; show HW _ _ _ _ _; refine hw_cond _ rfl (fun r0 => ?_) (fun r0 => ?_)
  · skip
    have h0 := r0
    have h0 := of_decide_eq_true h0
    try simp only [Int.toNat_natCast] at h0
    refine hw_seq ?_; refine hw_region (E := TrydE) Trydok ?_; refine rc rfl rfl rfl rfl rfl rfl good11 (cAwake) (CoL.refl _) rfl rfl ?_; refine rq rfl rfl rfl rfl rfl ?_; refine rg_nil ?_; show HW _ _ _ _ _; refine hw_ret ?_
    refine ⟨.inr rfl, ?_⟩
    exact ⟨_, _, _, _, rfl, (by (repeat' apply And.intro) <;> first | trivial | exact Nat.le_of_ble_eq_true rfl | rfl), rfl, (by (repeat' apply And.intro) <;> first | trivial | exact Nat.le_of_ble_eq_true rfl | rfl), CoL.refl _⟩
  · skip
    have h0 := r0
    have h0 := of_decide_eq_false h0
    try simp only [Int.toNat_natCast] at h0
    refine hw_skip ?_; show HW _ _ _ _ _; refine hw_seq ?_; refine hw_region (E := TrydE) Trydok ?_; refine rq rfl rfl rfl rfl rfl ?_; refine rg_nil ?_
    refine hw_adopt 5 900 true 1 34 (lf sC ps) (by decide) rfl (CoP.sl rfl (.inr rfl) (fun h => h) (fun i j hi _ => absurd hi (Nat.not_lt_zero i))) (.inr rfl) rfl ?_; show HW _ _ _ _ _; (iterate 2 refine hw_seq ?_)
    refine hw_region (E := TrydE) Trydok ?_; (iterate 3 refine rq rfl rfl rfl rfl rfl ?_); refine rg_nil ?_; show HW _ _ _ _ _; refine hw_block ?_
    refine hw_loopK (ι := Nat) ⟨[(0, some _), (20, some _), (21, some _)], []⟩ ⟨⟨⟨_, rfl, CoR.refl _⟩, ⟨_, rfl, CoR.refl _⟩, ⟨_, rfl, CoR.refl _⟩, trivial⟩, trivial⟩ (fun i => ⟨[(5, some (.v (.one (.ref 900 i)))), (22, some (vI i))], [(900, some (.arr true 1 34 i (lf sC ps)))]⟩) (fun i => i ≤ ps.length) (fun i => ps.length - i) (0) (Nat.zero_le _) ⟨⟨⟨_, rfl, (by first | exact CoR.refl _ | exact coi (by omega) | exact cob (by simp_all))⟩, ⟨_, rfl, (by first | exact CoR.refl _ | exact coi (by omega) | exact cob (by simp_all))⟩, trivial⟩, ⟨⟨_, rfl, CoO.refl _⟩, trivial⟩⟩ ?_
    rintro i hi
    refine hw_seq ?_; refine hw_region (E := TrydE) Trydok ?_; refine rq rfl rfl rfl rfl rfl ?_; refine rg_nil ?_; show HW _ _ _ _ _; refine hw_seq ?_; refine hw_cond _ rfl (fun r1 => ?_) (fun r1 => ?_)
    · skip
      have h1 := r1
      have h1 := of_decide_eq_true h1
      try simp only [Int.toNat_natCast] at h1
      refine hw_skip ?_; show HW _ _ _ _ _; refine hw_seq ?_; refine hw_block ?_; refine hw_seq ?_; refine hw_region (E := TrydE) Trydok ?_; (iterate 3 refine rq rfl rfl rfl rfl rfl ?_); refine rg_nil ?_; show HW _ _ _ _ _
      refine hw_region (E := TrydE) Trydok ?_; (iterate 2 refine rq rfl rfl rfl rfl rfl ?_); refine rm 0 rfl rfl rfl rfl rfl rfl ?_; refine ra 1 true rfl rfl rfl rfl rfl rfl ?_; refine rq rfl rfl rfl rfl rfl ?_; refine rg_nil ?_
      show HW _ _ _ _ _; refine hw_region (E := TrydE) Trydok ?_; (iterate 2 refine rq rfl rfl rfl rfl rfl ?_); refine rg_nil ?_; refine ⟨i + 1, ?_, ?_, ?_⟩
      · show i + 1 ≤ _; omega
      · first | omega | (dsimp only; omega)
      · exact ⟨⟨⟨_, rfl, (by first | exact CoR.refl _ | exact coi (by omega) | exact cob (by simp_all))⟩, ⟨_, rfl, (by first | exact CoR.refl _ | exact coi (by omega) | exact cob (by simp_all))⟩, ⟨_, rfl, CoR.refl _⟩, ⟨_, rfl, CoR.refl _⟩, ⟨_, rfl, CoR.refl _⟩, trivial⟩, ⟨⟨_, rfl, (co_push (fun h => h) (fun j hj => by obtain rfl : j = 0 := (by omega); exact CoP.refl _))⟩, trivial⟩⟩
    · skip
      have h1 := r1
      have h1 := of_decide_eq_false h1
      try simp only [Int.toNat_natCast] at h1
      obtain rfl : i = ps.length := by omega
      refine hw_exit ?_; show HW _ _ _ _ _; refine hw_seq ?_; refine hw_freeze 5 rfl rfl rfl ?_; refine hw_region (E := TrydE) Trydok ?_; (iterate 2 refine rq rfl rfl rfl rfl rfl ?_)
      refine rc rfl rfl rfl rfl rfl rfl good20 (cloneP75 ps.length false (lf sC ps) (by omega)) (CoL.refl _) rfl rfl ?_; refine rc rfl rfl rfl rfl rfl rfl good19 (cStart n ps) (CoL.refl _) rfl rfl ?_
      (iterate 3 refine rq rfl rfl rfl rfl rfl ?_); refine rm 2 rfl rfl rfl rfl rfl rfl ?_; refine rs rfl rfl rfl rfl rfl ?_; refine rq rfl rfl rfl rfl rfl ?_; refine rg_nil ?_; show HW _ _ _ _ _; refine hw_seq ?_
      refine hw_region (E := TrydE) Trydok ?_; (iterate 2 refine rq rfl rfl rfl rfl rfl ?_); refine rc rfl rfl rfl rfl rfl rfl good21 (cRStart n ps) (CoL.refl _) rfl rfl ?_; (iterate 3 refine rq rfl rfl rfl rfl rfl ?_)
      refine rm 3 rfl rfl rfl rfl rfl rfl ?_; refine rs rfl rfl rfl rfl rfl ?_; refine rq rfl rfl rfl rfl rfl ?_; refine rg_nil ?_; show HW _ _ _ _ _; refine hw_seq ?_; refine hw_region (E := TrydE) Trydok ?_
      (iterate 4 refine rq rfl rfl rfl rfl rfl ?_); refine rsplit rfl rfl (fun r2 => ?_) (fun r2 => ?_)
      · skip
        have h2 := r2
        have h2 := of_decide_eq_true h2
        try simp only [Int.toNat_natCast] at h2
        (iterate 2 refine rq rfl rfl rfl rfl (gtt r2) ?_); refine rc rfl rfl rfl rfl rfl rfl good22 (cSameX (startE n ps).1 (startE n ps).2.1) (CoL.refl _) rfl (gtt r2) ?_; (iterate 2 refine rq rfl rfl rfl rfl rfl ?_)
        refine rsplit rfl rfl (fun r3 => ?_) (fun r3 => ?_)
        · skip
          have h3 := r3
          have h3 := bif_t r2 h3
          refine rq rfl rfl rfl rfl (gtt r3) ?_; refine rc rfl rfl rfl rfl rfl rfl good15 (cRTValid (startE n ps).1 (startE n ps).2.1) (CoL.refl _) rfl (gtt r3) ?_; (iterate 2 refine rq rfl rfl rfl rfl rfl ?_); refine rg_nil ?_
          show HW _ _ _ _ _; refine hw_ret ?_; refine ⟨.inr rfl, ?_⟩
          exact ⟨_, _, _, _, rfl, (by (repeat' apply And.intro) <;> first | trivial | exact Nat.le_of_ble_eq_true rfl | rfl), rfl, (by (repeat' apply And.intro) <;> first | trivial | exact Nat.le_of_ble_eq_true rfl | rfl), ⟨ccb (by simp_all), trivial⟩⟩
        · skip
          have h3 := r3
          have h3 := bif_t r2 h3
          (iterate 2 refine rk rfl rfl rfl (gft r3) ?_); refine rq rfl rfl rfl rfl rfl ?_ (hp := r3); refine rq rfl rfl rfl rfl rfl ?_; refine rg_nil ?_; show HW _ _ _ _ _; refine hw_ret ?_; refine ⟨.inr rfl, ?_⟩
          exact ⟨_, _, _, _, rfl, (by (repeat' apply And.intro) <;> first | trivial | exact Nat.le_of_ble_eq_true rfl | rfl), rfl, (by (repeat' apply And.intro) <;> first | trivial | exact Nat.le_of_ble_eq_true rfl | rfl), ⟨ccb (by simp_all), trivial⟩⟩
      · skip
        have h2 := r2
        have h2 := of_decide_eq_false h2
        try simp only [Int.toNat_natCast] at h2
        (iterate 3 refine rk rfl rfl rfl (gft r2) ?_); refine rq rfl rfl rfl rfl rfl ?_ (hp := r2); refine rq rfl rfl rfl rfl rfl ?_; (iterate 2 refine rk rfl rfl rfl rfl ?_); (iterate 2 refine rq rfl rfl rfl rfl rfl ?_)
        refine rg_nil ?_; show HW _ _ _ _ _; refine hw_ret ?_; refine ⟨.inr rfl, ?_⟩
        exact ⟨_, _, _, _, rfl, (by (repeat' apply And.intro) <;> first | trivial | exact Nat.le_of_ble_eq_true rfl | rfl), rfl, (by (repeat' apply And.intro) <;> first | trivial | exact Nat.le_of_ble_eq_true rfl | rfl), ⟨ccb (by simp_all), trivial⟩⟩
end Go.Hx
end
section
namespace Go.Hx
open Go.RowKit Go.ChangeShapes Go.WideShapes Go.ChangeAt
def Rd (P : Program) (t : TypeId) (n : Nat) {α : Type} (c : α → Nat → PV) : Prop :=
  ∀ (H : Type) (enc : TypeId × Value → H) (w : World) (sp : Nat → Bool) (held : Bool) (fuel : Nat) (cs : List Value) (x : DataW H × List MemPlace), DataW.trod enc P w 0 sp held fuel t cs = some x →
    cs.length = n ∧ ∃ a : α, ∀ j, j < n → ∃ v, cs[j]? = some v ∧ RepP (nowImm w) (c a j) v
section
variable {P : Program} {t e : TypeId}
def intC (k : IntKind) (z : Int) : Nat → PV := fun _ => .raw (.int k z)
def boolC (b : Bool) : Nat → PV := fun _ => .raw (.bool b)
def byteC (s : ByteArray) : Nat → PV := fun _ => .raw (.string s)
theorem rd_int {k : IntKind} (ht : P.underlying t = some (.int k)) : Rd P t 1 (intC k) := by
  intro H enc w sp held fuel cs x h
  obtain ⟨n, rfl, _, _⟩ := DataW.trod_int ht h
  refine ⟨rfl, n, fun j hj => ?_⟩
  obtain rfl : j = 0 := by omega
  exact ⟨_, rfl, rfl, rfl⟩
theorem rd_bool (ht : P.underlying t = some .bool) : Rd P t 1 boolC := by
  intro H enc w sp held fuel cs x h
  obtain ⟨n, rfl, _⟩ := DataW.trod_bool ht h
  refine ⟨rfl, n, fun j hj => ?_⟩
  obtain rfl : j = 0 := by omega
  exact ⟨_, rfl, rfl, rfl⟩
theorem rd_string (ht : P.underlying t = some .string) : Rd P t 1 byteC := by
  intro H enc w sp held fuel cs x h
  obtain ⟨n, rfl, _⟩ := DataW.trod_string ht h
  refine ⟨rfl, n, fun j hj => ?_⟩
  obtain rfl : j = 0 := by omega
  exact ⟨_, rfl, rfl, rfl⟩
def u8P (u : UInt8) : Nat → PV := fun _ => .raw (.int .u8 (u.toNat : Int))
theorem rd_u8 (ht : P.underlying t = some (.int .u8)) : Rd P t 1 u8P := by
  intro H enc w sp held fuel cs x h
  obtain ⟨n, rfl, _, hw⟩ := DataW.trod_int ht h
  have hx : 0 ≤ n ∧ n ≤ 255 := by simpa [Lit.wf, IntKind.min, IntKind.max, IntKind.signed, IntKind.bits] using hw
  refine ⟨rfl, UInt8.ofNat n.toNat, fun j hj => ?_⟩
  obtain rfl : j = 0 := by omega
  refine ⟨_, rfl, ?_, rfl⟩
  have : (UInt8.ofNat n.toNat).toNat = n.toNat := by
    rw [UInt8.toNat_ofNat']
    omega
  rw [this]
  congr 1
  omega
theorem Rd.co {n : Nat} {α β : Type} {c : α → Nat → PV} {c' : β → Nat → PV} (h : Rd P t n c) (f : α → β) (hc : ∀ a j, j < n → CoP (c a j) (c' (f a) j)) : Rd P t n c' := by
  intro H enc w sp held fuel cs x hx
  obtain ⟨h1, a, h2⟩ := h _ enc w sp held fuel cs x hx
  refine ⟨h1, f a, fun j hj => ?_⟩
  obtain ⟨v, h3, h4⟩ := h2 j hj
  exact ⟨v, h3, hc a j hj _ _ h4⟩
def pslC {α : Type} [Inhabited α] (s : Nat) (c : α → Nat → PV) (l : List α) : Nat → PV := fun _ => psl s c l
theorem rd_slice {s : Nat} {α : Type} [Inhabited α] {c : α → Nat → PV} (ht : P.underlying t = some (.slice e)) (hc : P.cellsOf e = s) (hs : 0 < s) (h : Rd P e s c) : Rd P t 1 (pslC s c) := by
  classical
  intro H enc w sp held fuel cs x hx
  rcases DataW.trod_slice ht hx with ⟨rfl, _⟩ | ⟨a, len, cap, elems, rest, n, rfl, rfl, _, hb, hl, hm, hlen, hel, _, _⟩
  · refine ⟨rfl, [], fun j hj => ?_⟩
    obtain rfl : j = 0 := by omega
    exact ⟨_, rfl, none, 0, rfl, Nat.le_refl _, Nat.zero_le _, (fun hh => by cases hh), fun hh => absurd hh (Nat.lt_irrefl 0)⟩
  · have each : ∀ i, i < len → ∃ q : α, ∀ j, j < s → ∃ v, w.cell? (a.add (i * s + j)) = some v ∧ RepP (nowImm w) (c q j) v := by
      intro i hi
      have h1 := hel i hi
      rw [hc] at h1
      rw [List.getElem?_eq_getElem (by omega)] at h1
      obtain ⟨cs', h2, h3⟩ := Option.bind_eq_some_iff.1 h1
      obtain ⟨_, h4, h5⟩ := World.cells?_some h2
      obtain ⟨_, q, h6⟩ := h _ enc w sp held n cs' _ h3
      refine ⟨q, fun j hj => ?_⟩
      obtain ⟨v, h7, h8⟩ := h6 j hj
      refine ⟨v, ?_, h8⟩
      have := h5 j hj
      rw [h7] at this
      rw [← this]
      congr 1
      unfold Addr.add
      by_cases hj0 : j = 0
      · subst hj0
        simp
      · by_cases hi0 : i * s = 0
        · simp [hi0, hj0]
        · have : ¬ (i * s + j = 0) := by omega
          simp only [hj0, hi0, this, if_false]
          congr 1
          omega
    refine ⟨rfl, (List.range len).map fun i => if hi : i < len then Classical.choose (each i hi) else default, fun j hj => ?_⟩
    obtain rfl : j = 0 := by omega
    refine ⟨_, rfl, some a, cap, by simp, by simpa using hl, hm, (fun hh => by cases hh), fun hn => ?_⟩
    have hn : 0 < len := by simpa using hn
    have hspot : a.spot = none := by
      obtain ⟨q, hq⟩ := each 0 hn
      obtain ⟨v, hv, _⟩ := hq 0 hs
      have : a.add (0 * s + 0) = a := by simp [Addr.add]
      rw [this] at hv
      unfold World.cell? at hv
      split at hv
      · split at hv
        · cases hv
        · rename_i hsp
          simpa using hsp
      · cases hv
    refine ⟨a.block, a.off, ?_, fun i j hi hj => ?_⟩
    · obtain ⟨b, o, spo⟩ := a
      simp only at hspot
      subst hspot
      rfl
    · have hi : i < len := by simpa using hi
      have hch := Classical.choose_spec (each i hi)
      obtain ⟨v, hv, hr⟩ := hch j hj
      refine ⟨v, ?_, ?_⟩
      · unfold World.cell? at hv
        have hblk : (a.add (i * s + j)).block = a.block := by unfold Addr.add; split <;> rfl
        have hoff : (a.add (i * s + j)).off = a.off + (i * s + j) := by
          unfold Addr.add
          split
          · rename_i h0; rw [h0]; rfl
          · rfl
        rw [hblk, hoff] at hv
        unfold cellIn nowImm
        split at hv
        · rename_i hb'
          rw [hb']
          split at hv
          · cases hv
          · exact hv
        · cases hv
      · have : lf c ((List.range len).map fun i => if hi : i < len then Classical.choose (each i hi) else default) i j = c (Classical.choose (each i hi)) j := by
          unfold lf
          simp [List.getD, hi]
        rw [this]
        exact hr
theorem rd_fields {H : Type} {enc : TypeId × Value → H} {w : World} {sp : Nat → Bool} {held : Bool} {fuel : Nat} {cs : List Value} {x : DataW H × List MemPlace} {fs : Array Field} (ht : P.underlying t = some (.struct fs)) (h : DataW.trod enc P w 0 sp held fuel t cs = some x) :
    cs.length = P.cellsOf t ∧ ∃ n, ∀ (i : Nat) (f : Field), fs[i]? = some f → ∃ y, DataW.trod enc P w 0 sp held n f.type ((cs.drop f.offset).take (P.cellsOf f.type)) = some y := by
  obtain ⟨xs, n, _, _, h1, h2, h3⟩ := DataW.trod_struct ht h
  refine ⟨h1, n, fun i f hf => ?_⟩
  have := h3 i f hf
  rw [this]
  have hi : i < xs.length := by rw [h2]; exact (Array.getElem?_eq_some_iff.1 hf).1
  exact ⟨_, List.getElem?_eq_getElem hi⟩
theorem rd_field {H : Type} {enc : TypeId × Value → H} {w : World} {sp : Nat → Bool} {held : Bool} {n off s : Nat} {ft : TypeId} {cs : List Value} {y : DataW H × List MemPlace} {α : Type} {c : α → Nat → PV} (h : Rd P ft s c) (hy : DataW.trod enc P w 0 sp held n ft ((cs.drop off).take (P.cellsOf ft)) = some y) :
    ∃ a : α, ∀ j, j < s → ∃ v, cs[off + j]? = some v ∧ RepP (nowImm w) (c a j) v := by
  obtain ⟨h1, a, h2⟩ := h _ enc w sp held n _ y hy
  refine ⟨a, fun j hj => ?_⟩
  obtain ⟨v, h3, h4⟩ := h2 j hj
  refine ⟨v, ?_, h4⟩
  rw [List.getElem?_take] at h3
  split at h3
  · rwa [List.getElem?_drop] at h3
  · cases h3
end
theorem kept_of_below {W W' : World} (hb : Below W.heap.size W W') (may : MemPlace → Prop) : W.keptBut W' may := by
  refine ⟨hb.os, hb.output, fun i hi => ?_⟩
  rw [hb.block i hi]
  cases W.heap[i]? with
  | none => exact rfl
  | some o => cases o <;> first | exact ⟨rfl, rfl, rfl, fun _ _ => rfl⟩ | exact .inr ⟨rfl, rfl⟩ | exact rfl
theorem same_of_below {W W' : World} (hb : Below W.heap.size W W') (p : MemPlace) (hp : p.block < W.heap.size) : W.sameAt W' p := by
  cases p with
  | cell b off => show W'.cell? _ = W.cell? _; unfold World.cell?; rw [hb.block b hp]
  | map b => exact hb.block b hp
section
variable {H : Type} {enc : TypeId × Value → H} {P : Program}
theorem trodAll_stays (hl : laidOutB P = true) {W W' : World} {sp' : Nat → Bool} : ∀ {ts : List TypeId} {vs : List Value} {ds : List (DataW H)} {ps : List MemPlace}, (∀ t ∈ ts, P.readableRec t = true ∧ t < P.types.size) → DataW.TrodAll enc P W 0 (fun _ => true) true ts vs ds ps →
    (∀ p ∈ ps, W.sameAt W' p) → (∀ p ∈ ps, sp' p.block = true) → DataW.TrodAll enc P W' 0 sp' true ts vs ds ps
  | [], [], [], ps, _, h, _, _ => h
  | t :: ts, v :: vs, d :: ds, ps, ht, ⟨p, q, h1, h2, e⟩, hs, hsp => by
    subst e
    refine ⟨p, q, WideElems.Trod_stays hl (ht t (by simp)).1 (ht t (by simp)).2 h1 (fun z hz => hs z (by simp [hz])) (fun z hz => hsp z (by simp [hz])), ?_, rfl⟩
    exact trodAll_stays hl (fun t ht' => ht t (by simp [ht'])) h2 (fun z hz => hs z (by simp [hz])) (fun z hz => hsp z (by simp [hz]))
  | [], _ :: _, _, _, _, h, _, _ => h.elim
  | [], [], _ :: _, _, _, h, _, _ => h.elim
  | _ :: _, [], _, _, _, h, _, _ => h.elim
  | _ :: _, _ :: _, [], _, _, h, _, _ => h.elim
theorem law_post {f : Func} {s : ChangeSpec} {W W' : World} {args : Array Value} {ds : List (DataW H)} {before : List MemPlace} {tb : TypeId} (hl : laidOutB P = true) (hpar : ∀ t ∈ f.params.toList, P.readableRec t = true ∧ t < P.types.size)
    (hres : f.resultTypes = #[tb]) (htb : P.underlying tb = some .bool) (hv : s.vars = []) (hfn : s.fn H ds = { results := [.lit (.bool true)], args := ds })
    (hW : DataW.Whole enc P f.params.toList s.vars false W args.toList ds [] before) (hb : Below W.heap.size W W') : s.post enc P f false true false false W args (.bool true) W' := by
  have hW' := hW
  have hlt : ∀ p ∈ before, p.block < W.heap.size := fun p hp => hW.lt p hp
  obtain ⟨p, q, hA, hV, rfl, hfz, hnd⟩ := hW
  rw [hv] at hV
  obtain ⟨_, rfl⟩ := trodVars_none hV
  have hfn' : s.fn H (ds ++ []) = { results := [.lit (.bool true)], args := ds } := by rw [List.append_nil]; exact hfn
  have hargs : ∀ sp : Nat → Bool, (∀ z ∈ p ++ [], sp z.block = true) → DataW.TrodAll enc P W' 0 sp true f.params.toList args.toList (s.fn H (ds ++ [])).args p := fun sp hsp => by
    rw [hfn']
    exact trodAll_stays hl hpar hA (fun z hz => same_of_below hb z (hlt z (by simpa using hz))) (fun z hz => hsp z (by simpa using hz))
  have hrs : ∀ (b : Nat) (sp : Nat → Bool) (hd : Bool), DataW.TrodAll enc P W' b sp hd f.resultTypes.toList ((Value.bool true).resultList f.resultTypes.size) (s.fn H (ds ++ [])).results [] := fun b sp hd => by
    rw [hfn', hres]
    exact trodAll_cons_mk (shut_bool htb _) trodAll_mk0
  have hok : ∀ (j : Nat) (t : TypeId) (r : Value), f.resultTypes[j]? = some t → ((Value.bool true).resultList f.resultTypes.size)[j]? = some r → Value.okWide P W' .any 0 t r := ok_one hres rfl (okWide_bool_mk htb _)
  have hvars : ∀ sp : Nat → Bool, (∀ z ∈ p ++ [], sp z.block = true) → DataW.TrodVars enc P W' sp s.vars (s.fn H (ds ++ [])).vars [] := fun sp _ => by
    rw [hfn', hv]; exact rfl
  have hold : ∀ z ∈ p ++ [], (fun b => decide (b < W.heap.size)) z.block = true := fun z hz => by simpa using hlt z hz
  refine ⟨ds, [], p ++ [], [], p, [], hW', hrs _ _ _, hargs _ hold, hvars _ hold, World.keptBut_mono (fun z hz => ⟨hz, ?_⟩) (kept_of_below hb (· ∈ p ++ [])), fun _ => ?_⟩
  · exact Or.inr (by simpa using hz)
  · refine ⟨hok, _, _, ([] ++ p) ++ [], ⟨[] ++ p, [], trodAll_append (hargs _ (fun _ _ => rfl)) (hrs _ _ _), hvars _ (fun _ _ => rfl), rfl, ?_, ?_⟩, ?_⟩
    · intro b off hp
      have hp' : MemPlace.cell b off ∈ p ++ [] := by simpa using hp
      have := hfz b off hp'
      unfold World.frozen? at this ⊢
      rw [hb.block b (hlt _ hp')]
      exact this
    · intro ha; cases ha
    · intro z hz _
      simpa using hz
end
theorem okWide_slice {P : Program} {W : World} {r : Reach} {b : Nat} {t e : TypeId} {v : Value} (ht : P.underlying t = some (.slice e)) (h : Value.okWide P W r b t v) : v.cells.toList = [v] := by
  unfold Value.okWide at h
  rw [ht] at h
  unfold Cell.okWide at h
  rw [ht] at h
  cases v <;> first | rfl | (simp [Cell.ok, ht] at h)
theorem okWide_int {P : Program} {W : World} {r : Reach} {b : Nat} {t : TypeId} {k : IntKind} {v : Value} (ht : P.underlying t = some (.int k)) (h : Value.okWide P W r b t v) : v.cells.toList = [v] := by
  unfold Value.okWide at h
  rw [ht] at h
  unfold Cell.okWide at h
  rw [ht] at h
  cases v <;> first | rfl | (simp [Cell.ok, ht] at h)
theorem okWide_bool {P : Program} {W : World} {r : Reach} {b : Nat} {t : TypeId} {v : Value} (ht : P.underlying t = some .bool) (h : Value.okWide P W r b t v) : v.cells.toList = [v] := by
  unfold Value.okWide at h
  rw [ht] at h
  unfold Cell.okWide at h
  rw [ht] at h
  cases v <;> first | rfl | (simp [Cell.ok, ht] at h)
theorem rd_arg {H : Type} {enc : TypeId × Value → H} {P : Program} {W : World} {t : TypeId} {v : Value} {d : DataW H} {ps : List MemPlace} {α : Type} {c : α → Nat → PV} (h : Rd P t 1 c) (hc : v.cells.toList = [v]) (hd : DataW.Trod enc P W 0 (fun _ => true) true t v d ps) : ∃ a : α, RepP (nowImm W) (c a 0) v := by
  obtain ⟨fuel, hf⟩ := hd
  obtain ⟨_, a, ha⟩ := h _ enc W _ _ fuel _ _ hf
  obtain ⟨u, hu, hr⟩ := ha 0 (by omega)
  rw [hc] at hu
  simp only [List.getElem?_cons_zero, Option.some.injEq] at hu
  subst hu
  exact ⟨a, hr⟩
theorem law_calls {P : Program} {f : FuncId} {args : List PC} {us : List Value} {W : World} {R : Ending → World → Prop} (ht : TabOk (nowImm W)) (h : HPure P f args (prOf [.one (.raw (.bool true))])) (hr : RepPCL (nowImm W) args us) (hR : ∀ W', Below W.heap.size W W' → R (.returned (.bool true)) W') : Calls P f us.toArray W R := by
  refine (h W (nowImm W) us ht (fun _ _ hh => hh) hr).mono ?_
  rintro e w' ⟨v, imm', rfl, hv, _, _, hb⟩
  obtain ⟨rfl, _⟩ := hv
  exact hR w' hb
end Go.Hx
end
