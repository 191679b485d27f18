/- A part of the proof: lemmas for the theorem of this claim, merged by a program of ours out of V20, Cs23, V21, V22. -/
import Derived.Test.YtgeliioenkmfhaaDoorD29
set_option linter.all false
section
namespace Go.Hx
open Go.Proofs
set_option maxRecDepth 100000
theorem good31 : goodFn Tryd.prog 31 := ⟨Tryd.f31, Tryd.func31, by kernel_rfl, by kernel_rfl⟩
theorem cAwake  : HPure Tryd.prog 31 [] (prOf [pB true]) := by
  refine hpure_of (nt := 93) Trydok Tryd.func31 rfl rfl (Nat.le_of_ble_eq_true rfl) ?_; refine hw_seq ?_; refine hw_region (E := TrydE) Trydok ?_; refine rq rfl rfl rfl rfl rfl ?_; refine rg_nil ?_; show HW _ _ _ _ _
  refine hw_seq ?_; refine hw_region (E := TrydE) Trydok ?_; (iterate 2 refine rq rfl rfl rfl rfl rfl ?_); refine rm 0 rfl rfl rfl rfl rfl rfl ?_; (iterate 2 refine rq rfl rfl rfl rfl rfl ?_); refine rm 1 rfl rfl rfl rfl rfl rfl ?_
  (iterate 2 refine rq rfl rfl rfl rfl rfl ?_); refine rg_nil ?_; refine hw_freeze 1 rfl rfl rfl ?_; refine hw_freeze 2 rfl rfl rfl ?_; show HW _ _ _ _ _; refine hw_seq ?_; refine hw_region (E := TrydE) Trydok ?_
  refine rq rfl rfl rfl rfl rfl ?_; refine rc rfl rfl rfl rfl rfl rfl good32 (cVioC) (⟨CoC.one (co_fd2 (CoP.refl _) (CoP.refl _) (CoP.refl _) (CoP.refl _)), CoC.refl _, trivial⟩) rfl rfl ?_
  (iterate 4 refine rq rfl rfl rfl rfl rfl ?_); refine rm 2 rfl rfl rfl rfl rfl rfl ?_; refine rs rfl rfl rfl rfl rfl ?_; (iterate 2 refine rq rfl rfl rfl rfl rfl ?_); refine rg_nil ?_; show HW _ _ _ _ _; refine hw_seq ?_
  refine hw_region (E := TrydE) Trydok ?_; refine rq rfl rfl rfl rfl rfl ?_; refine rc rfl rfl rfl rfl rfl rfl good36 (cDecC) (⟨CoC.refl _, CoC.one (co_fd2 (CoP.refl _) (CoP.refl _) (CoP.refl _) (CoP.refl _)), trivial⟩) rfl rfl ?_
  (iterate 5 refine rq rfl rfl rfl rfl rfl ?_); refine rg_nil ?_; show HW _ _ _ _ _; refine hw_seq ?_; refine hw_region (E := TrydE) Trydok ?_; refine rq rfl rfl rfl rfl rfl ?_
  refine rc rfl rfl rfl rfl rfl rfl good36 (cDecP) (⟨CoC.refl _, CoC.one (co_fd2 (CoP.refl _) (CoP.refl _) (CoP.refl _) (CoP.refl _)), trivial⟩) rfl rfl ?_; (iterate 5 refine rq rfl rfl rfl rfl rfl ?_); refine rg_nil ?_
  show HW _ _ _ _ _; refine hw_seq ?_; refine hw_region (E := TrydE) Trydok ?_; refine rq rfl rfl rfl rfl rfl ?_
  refine rc rfl rfl rfl rfl rfl rfl good40 (cObsP) (⟨CoC.refl _, CoC.one (co_fd2 (CoP.refl _) (CoP.refl _) (CoP.refl _) (CoP.refl _)), trivial⟩) rfl rfl ?_; (iterate 3 refine rq rfl rfl rfl rfl rfl ?_)
  refine rm 3 rfl rfl rfl rfl rfl rfl ?_; refine rs rfl rfl rfl rfl rfl ?_; refine rq rfl rfl rfl rfl rfl ?_; refine rg_nil ?_; show HW _ _ _ _ _; refine hw_seq ?_; refine hw_region (E := TrydE) Trydok ?_
  refine rq rfl rfl rfl rfl rfl ?_; refine rc rfl rfl rfl rfl rfl rfl good39 (cPossP) (⟨CoC.refl _, CoC.one (co_fd2 (CoP.refl _) (CoP.refl _) (CoP.refl _) (CoP.refl _)), trivial⟩) rfl rfl ?_
  (iterate 7 refine rq rfl rfl rfl rfl rfl ?_); refine rg_nil ?_; show HW _ _ _ _ _; refine hw_seq ?_; refine hw_region (E := TrydE) Trydok ?_; (iterate 6 refine rq rfl rfl rfl rfl rfl ?_)
  (iterate 3 refine rq rfl rfl rfl rfl (gtt (bif_tk rfl rfl)) ?_); (iterate 2 refine rq rfl rfl rfl rfl rfl ?_); (iterate 2 refine rq rfl rfl rfl rfl (gtt (bif_tk (bif_tk rfl rfl) rfl)) ?_)
  (iterate 2 refine rq rfl rfl rfl rfl rfl ?_); refine rq rfl rfl rfl rfl (gtt (bif_tk (bif_tk (bif_tk rfl rfl) rfl) rfl)) ?_; refine rm 4 rfl rfl rfl rfl rfl (gtt (bif_tk (bif_tk (bif_tk rfl rfl) rfl) rfl)) ?_
  refine rg_fcall rfl rfl rfl rfl rfl rfl good26 (HPure.eat (hcs := [.one (.p (asl [3, 6])), .one (.ref 4 2)]) (o1 := [(4, .arr true 1 30 2 (lf sC [3, 6]))]) (cSame36) rfl (by (repeat' apply And.intro) <;> first | trivial | rfl) (CoL.refl _)) (CoHCL.refl _) ⟨⟨_, rfl, (arr_lit2 (CoP.refl _) (CoP.refl _))⟩, trivial⟩ rfl (gtt (bif_tk (bif_tk (bif_tk rfl rfl) rfl) rfl)) ?_
  (iterate 2 refine rq rfl rfl rfl rfl rfl ?_); (iterate 2 refine rq rfl rfl rfl rfl (gtt (bif_tk (bif_tk (bif_tk (bif_tk rfl rfl) rfl) rfl) rfl)) ?_); (iterate 2 refine rq rfl rfl rfl rfl rfl ?_)
  refine rq rfl rfl rfl rfl (gtt (bif_tk (bif_tk (bif_tk (bif_tk (bif_tk rfl rfl) rfl) rfl) rfl) rfl)) ?_; refine rm 5 rfl rfl rfl rfl rfl (gtt (bif_tk (bif_tk (bif_tk (bif_tk (bif_tk rfl rfl) rfl) rfl) rfl) rfl)) ?_
  refine rg_fcall rfl rfl rfl rfl rfl rfl good26 (HPure.eat (hcs := [.one (.p (asl [5, 6])), .one (.ref 5 2)]) (o1 := [(5, .arr true 1 30 2 (lf sC [5, 6]))]) (cSame56) rfl (by (repeat' apply And.intro) <;> first | trivial | rfl) (CoL.refl _)) (CoHCL.refl _) ⟨⟨_, rfl, (arr_lit2 (CoP.refl _) (CoP.refl _))⟩, trivial⟩ rfl (gtt (bif_tk (bif_tk (bif_tk (bif_tk (bif_tk rfl rfl) rfl) rfl) rfl) rfl)) ?_
  (iterate 2 refine rq rfl rfl rfl rfl rfl ?_); (iterate 2 refine rq rfl rfl rfl rfl (gtt (bif_tk (bif_tk (bif_tk (bif_tk (bif_tk (bif_tk rfl rfl) rfl) rfl) rfl) rfl) rfl)) ?_); (iterate 2 refine rq rfl rfl rfl rfl rfl ?_)
  (iterate 3 refine rq rfl rfl rfl rfl (gtt (bif_tk (bif_tk (bif_tk (bif_tk (bif_tk (bif_tk (bif_tk rfl rfl) rfl) rfl) rfl) rfl) rfl) rfl)) ?_); (iterate 2 refine rq rfl rfl rfl rfl rfl ?_)
  (iterate 2 refine rq rfl rfl rfl rfl (gtt (bif_tk (bif_tk (bif_tk (bif_tk (bif_tk (bif_tk (bif_tk (bif_tk rfl rfl) rfl) rfl) rfl) rfl) rfl) rfl) rfl)) ?_); (iterate 2 refine rq rfl rfl rfl rfl rfl ?_)
  (iterate 2 refine rq rfl rfl rfl rfl (gtt (bif_tk (bif_tk (bif_tk (bif_tk (bif_tk (bif_tk (bif_tk (bif_tk (bif_tk rfl rfl) rfl) rfl) rfl) rfl) rfl) rfl) rfl) rfl)) ?_); (iterate 2 refine rq rfl rfl rfl rfl rfl ?_)
  refine rg_nil ?_; show HW _ _ _ _ _; refine hw_ret ?_; refine ⟨.inr rfl, ?_⟩
  exact ⟨_, _, _, _, rfl, (by (repeat' apply And.intro) <;> first | trivial | exact Nat.le_of_ble_eq_true rfl | rfl), rfl, (by (repeat' apply And.intro) <;> first | trivial | exact Nat.le_of_ble_eq_true rfl | rfl), CoL.refl _⟩
end Go.Hx
end
section
namespace Go.Hx
open Go.Proofs
theorem errS16 (n : Int) (l : List Fd) : errS n l 16 = vErr n l := by
  unfold errS
  split
  · rename_i h
    rw [if_neg (by have := (vErr_ok h).2.1; omega), h]
  · rfl
theorem cRErr16 (n : Int) (l : List Fd) : HPure Tryd.prog 38 [pI n, pP (fdl l), pI 16] (prOf [pI (vErr n l)]) := by
  have h := cRErr n l 16
  rw [errS16] at h
  exact h
def w1 (l : List Fd) (p : AS) : Int := if vErr 16 l = 0 ∧ (8 : Int) < bsz p then 3 else vErr 16 l
section
variable {l : List Fd} {p : AS}
theorem w1_t (h : vErr 16 l = 0) (h2 : (8 : Int) < bsz p) : 3 = w1 l p := (if_pos ⟨h, h2⟩).symm
theorem w1_f1 (h : ¬ vErr 16 l = 0) : vErr 16 l = w1 l p := (if_neg fun e => h e.1).symm
theorem w1_f2 (h : ¬ (8 : Int) < bsz p) : vErr 16 l = w1 l p := (if_neg fun e => h e.2).symm
theorem sub16 : sub p (fullI 16) ↔ p >>> 16 = 0 := by
  have := shr_v (s := p) (n := 16) (by omega) (by omega)
  rw [← this]
  exact shr_zero
theorem w2_t (h : w1 l p = 0) (h2 : ¬ sub p (fullI 16)) : 1 = vioE l p := by
  rw [sub16] at h2
  unfold w1 at h
  unfold vioE
  split at h
  · cases h
  · rename_i hc
    rw [if_pos h, if_neg (fun e => hc ⟨h, by omega⟩), if_neg h2]
theorem w2_f1 (h : ¬ w1 l p = 0) : w1 l p = vioE l p := by
  unfold w1 at h ⊢
  unfold vioE
  split
  · rename_i hc
    rw [if_pos hc.1, if_pos (by omega)]
  · rename_i hc
    rw [if_neg hc] at h
    rw [if_neg h]
theorem w2_f2 (h2 : sub p (fullI 16)) : w1 l p = vioE l p := by
  rw [sub16] at h2
  unfold w1 vioE
  by_cases h : vErr 16 l = 0
  · by_cases h3 : (8 : Int) < bsz p
    · rw [if_pos ⟨h, h3⟩, if_pos h, if_pos (by omega)]
    · rw [if_neg (fun e => h3 e.2), if_pos h, if_neg (by omega), if_pos h2, h]
  · rw [if_neg (fun e => h e.1), if_neg h]
theorem vio_x (h : ¬ vioE l p = 0) : vioR l p = ⟨0, 0⟩ ∧ vioRB l p = false := ⟨if_neg h, by unfold vioRB; rw [decide_eq_false h]; rfl⟩
theorem vio_y (h : vioE l p = 0) : vioR l p = violF l p ∧ vioRB l p = violB l p := ⟨if_pos h, by unfold vioRB; rw [decide_eq_true h]; rfl⟩
end
section
variable {n : Int} {l : List Fd}
theorem cDecX (h0 : ¬ errS n l 8 = 0) : HPure Tryd.prog 36 [pI n, pP (fdl l)] (prOf [pP (asl []), pI (errS n l 8)]) := by
  have h := cDec n l
  rw [decE_f h0] at h
  exact h
theorem cPossX (h0 : ¬ errS n l 8 = 0) : HPure Tryd.prog 39 [pI n, pP (fdl l)] (prOf [pP (asl []), pB false, pI (errS n l 8)]) := by
  have h := cPoss n l
  rw [(poss_1 h0).1, (poss_1 h0).2] at h
  exact h
theorem cObsX (h0 : ¬ errS n l 8 = 0) : HPure Tryd.prog 40 [pI n, pP (fdl l)] (prOf [Fd.pc ⟨0, 0⟩, pI (errS n l 8)]) := by
  have h := cObs n l
  rw [(obs_1 h0).1, (obs_1 h0).2] at h
  exact h
theorem cBSubsX (h0 : ¬ errS n l 8 = 0) : HPure Tryd.prog 41 [pI n, pP (fdl l)] (prOf [pP (asl []), pI (errS n l 8)]) := by
  have h := cBSubs n l
  rw [subF_f h0] at h
  exact h
end
end Go.Hx
end
section
namespace Go.Hx
open Go.Proofs
set_option maxRecDepth 100000
theorem good10 : goodFn Tryd.prog 10 := ⟨Tryd.f10, Tryd.func10, by kernel_rfl, by kernel_rfl⟩
theorem cLaw10 (n : Int) (l : List Fd) : HPure Tryd.prog 10 [pI n, pP (fdl l)] (prOf [pB true]) := by
  refine hpure_of (nt := 108) Trydok Tryd.func10 rfl rfl (Nat.le_of_ble_eq_true rfl) ?_; refine hw_seq ?_; refine hw_region (E := TrydE) Trydok ?_; refine rq rfl rfl rfl rfl rfl ?_; refine rg_nil ?_; show HW _ _ _ _ _
  refine hw_seq ?_; refine hw_region (E := TrydE) Trydok ?_; (iterate 2 refine rq rfl rfl rfl rfl rfl ?_); refine rc rfl rfl rfl rfl rfl rfl good38 (cRErr _ _ _) (CoL.refl _) rfl rfl ?_; refine rq rfl rfl rfl rfl rfl ?_
  refine rg_nil ?_; show HW _ _ _ _ _; (iterate 2 refine hw_seq ?_)
  refine hw_bt 1 rfl fun hlen => ?_
  refine hw_region (E := TrydE) Trydok ?_; refine rc rfl rfl rfl rfl rfl rfl good31 (cAwake) (CoL.refl _) rfl rfl ?_; (iterate 7 refine rq rfl rfl rfl rfl rfl ?_); refine rsplit rfl rfl (fun r0 => ?_) (fun r0 => ?_)
  · skip
    have h0 := r0
    have h0 := of_decide_eq_true h0
    try simp only [Int.toNat_natCast] at h0
    (iterate 2 refine rk rfl rfl rfl (gtf r0) ?_); refine rq rfl rfl rfl rfl rfl ?_ (hp := r0); refine rg_nil ?_; show HW _ _ _ _ _; refine hw_cond _ rfl (fun _ => ?_) (fun e => by cases e); refine hw_seq ?_
    refine hw_region (E := TrydE) Trydok ?_; refine rc rfl rfl rfl rfl rfl rfl good31 (cAwake) (CoL.refl _) rfl rfl ?_; refine rq rfl rfl rfl rfl rfl ?_; refine rg_nil ?_; show HW _ _ _ _ _; refine hw_ret ?_; refine ⟨.inr rfl, ?_⟩
    exact ⟨_, _, _, _, rfl, (by (repeat' apply And.intro) <;> first | trivial | exact Nat.le_of_ble_eq_true rfl | rfl), rfl, (by (repeat' apply And.intro) <;> first | trivial | exact Nat.le_of_ble_eq_true rfl | rfl), ⟨ccb (by simp_all), trivial⟩⟩
  · skip
    have h0 := r0
    have h0 := of_decide_eq_false h0
    try simp only [Int.toNat_natCast] at h0
    (iterate 2 refine rq rfl rfl rfl rfl (gff r0) ?_); refine rq rfl rfl rfl rfl rfl ?_; refine rg_nil ?_; show HW _ _ _ _ _; refine hw_cond _ rfl (fun r1 => ?_) (fun r1 => ?_)
    · skip
      have h1 := r1
      have h1 := bif_f r0 h1
      have h1 := of_decide_eq_true h1
      try simp only [Int.toNat_natCast] at h1
      refine hw_seq ?_; refine hw_region (E := TrydE) Trydok ?_; refine rc rfl rfl rfl rfl rfl rfl good31 (cAwake) (CoL.refl _) rfl rfl ?_; refine rq rfl rfl rfl rfl rfl ?_; refine rg_nil ?_; show HW _ _ _ _ _; refine hw_ret ?_
      refine ⟨.inr rfl, ?_⟩
      exact ⟨_, _, _, _, rfl, (by (repeat' apply And.intro) <;> first | trivial | exact Nat.le_of_ble_eq_true rfl | rfl), rfl, (by (repeat' apply And.intro) <;> first | trivial | exact Nat.le_of_ble_eq_true rfl | rfl), ⟨ccb (by simp_all), trivial⟩⟩
    · skip
      have h1 := r1
      have h1 := bif_f r0 h1
      have h1 := of_decide_eq_false h1
      try simp only [Int.toNat_natCast] at h1
      have he := h1
      refine hw_skip ?_; show HW _ _ _ _ _; refine hw_seq ?_; refine hw_region (E := TrydE) Trydok ?_; (iterate 2 refine rq rfl rfl rfl rfl rfl ?_); refine rc rfl rfl rfl rfl rfl rfl good36 (cDecX he) (CoL.refl _) rfl rfl ?_
      (iterate 5 refine rq rfl rfl rfl rfl rfl ?_); refine rg_nil ?_; show HW _ _ _ _ _; refine hw_seq ?_; refine hw_region (E := TrydE) Trydok ?_; (iterate 2 refine rq rfl rfl rfl rfl rfl ?_)
      refine rc rfl rfl rfl rfl rfl rfl good39 (cPossX he) (CoL.refl _) rfl rfl ?_; (iterate 7 refine rq rfl rfl rfl rfl rfl ?_); refine rg_nil ?_; show HW _ _ _ _ _; refine hw_seq ?_; refine hw_region (E := TrydE) Trydok ?_
      (iterate 2 refine rq rfl rfl rfl rfl rfl ?_); refine rc rfl rfl rfl rfl rfl rfl good40 (cObsX he) (CoL.refl _) rfl rfl ?_; (iterate 3 refine rq rfl rfl rfl rfl rfl ?_); refine rm 0 rfl rfl rfl rfl rfl rfl ?_
      refine rs rfl rfl rfl rfl rfl ?_; refine rq rfl rfl rfl rfl rfl ?_; refine rg_nil ?_; show HW _ _ _ _ _; refine hw_seq ?_; refine hw_region (E := TrydE) Trydok ?_; (iterate 2 refine rq rfl rfl rfl rfl rfl ?_)
      refine rc rfl rfl rfl rfl rfl rfl good41 (cBSubsX he) (CoL.refl _) rfl rfl ?_; (iterate 5 refine rq rfl rfl rfl rfl rfl ?_); refine rg_nil ?_; show HW _ _ _ _ _; refine hw_seq ?_; refine hw_region (E := TrydE) Trydok ?_
      (iterate 2 refine rq rfl rfl rfl rfl rfl ?_); refine rc rfl rfl rfl rfl rfl rfl good35 (cBIs n l) (CoL.refl _) rfl rfl ?_; (iterate 5 refine rq rfl rfl rfl rfl rfl ?_); refine rg_nil ?_; show HW _ _ _ _ _; refine hw_seq ?_
      refine hw_region (E := TrydE) Trydok ?_; (iterate 4 refine rq rfl rfl rfl rfl rfl ?_); refine rsplit rfl rfl (fun r2 => ?_) (fun r2 => ?_)
      · skip
        have h2 := r2
        have h2 := of_decide_eq_true h2
        try simp only [Int.toNat_natCast] at h2
        (iterate 3 refine rq rfl rfl rfl rfl (gtt r2) ?_); (iterate 2 refine rq rfl rfl rfl rfl rfl ?_); refine rsplit rfl rfl (fun r3 => ?_) (fun r3 => ?_)
        · skip
          have h3 := r3
          have h3 := bif_t r2 h3
          have h3 := of_decide_eq_true h3
          try simp only [Int.toNat_natCast] at h3
          (iterate 3 refine rq rfl rfl rfl rfl (gtt r3) ?_); (iterate 2 refine rq rfl rfl rfl rfl rfl ?_); refine rsplit rfl rfl (fun r4 => ?_) (fun r4 => ?_)
          · skip
            have h4 := r4
            have h4 := bif_t r3 h4
            have h4 := of_decide_eq_true h4
            try simp only [Int.toNat_natCast] at h4
            (iterate 3 refine rq rfl rfl rfl rfl (gtt r4) ?_); (iterate 2 refine rq rfl rfl rfl rfl rfl ?_); refine rsplit rfl rfl (fun r5 => ?_) (fun r5 => ?_)
            · skip
              have h5 := r5
              have h5 := bif_t r4 h5
              have h5 := of_decide_eq_true h5
              try simp only [Int.toNat_natCast] at h5
              (iterate 2 refine rq rfl rfl rfl rfl (gtt r5) ?_); (iterate 2 refine rq rfl rfl rfl rfl rfl ?_); (iterate 3 refine rq rfl rfl rfl rfl (gtt (bif_tk r5 rfl)) ?_); (iterate 2 refine rq rfl rfl rfl rfl rfl ?_)
              (iterate 9 refine rq rfl rfl rfl rfl (gtt (bif_tk (bif_tk r5 rfl) rfl)) ?_); (iterate 2 refine rq rfl rfl rfl rfl rfl ?_); (iterate 3 refine rq rfl rfl rfl rfl (gtt (bif_tk (bif_tk (bif_tk r5 rfl) rfl) rfl)) ?_)
              refine rc rfl rfl rfl rfl rfl rfl good38 (cRErr16 n l) (CoL.refl _) rfl (gtt (bif_tk (bif_tk (bif_tk r5 rfl) rfl) rfl)) ?_; refine rq rfl rfl rfl rfl (gtt (bif_tk (bif_tk (bif_tk r5 rfl) rfl) rfl)) ?_
              (iterate 2 refine rq rfl rfl rfl rfl rfl ?_); refine rg_nil ?_; show HW _ _ _ _ _; refine hw_ret ?_; refine ⟨.inr rfl, ?_⟩
              exact ⟨_, _, _, _, rfl, (by (repeat' apply And.intro) <;> first | trivial | exact Nat.le_of_ble_eq_true rfl | rfl), rfl, (by (repeat' apply And.intro) <;> first | trivial | exact Nat.le_of_ble_eq_true rfl | rfl), ⟨ccb (by simp_all), trivial⟩⟩
            · skip
              have h5 := r5
              have h5 := bif_t r4 h5
              have h5 := of_decide_eq_false h5
              try simp only [Int.toNat_natCast] at h5
              (iterate 2 refine rk rfl rfl rfl (gft r5) ?_); refine rq rfl rfl rfl rfl rfl ?_ (hp := r5); refine rq rfl rfl rfl rfl rfl ?_; (iterate 3 refine rk rfl rfl rfl rfl ?_); (iterate 2 refine rq rfl rfl rfl rfl rfl ?_)
              (iterate 9 refine rk rfl rfl rfl rfl ?_); (iterate 2 refine rq rfl rfl rfl rfl rfl ?_); (iterate 5 refine rk rfl rfl rfl rfl ?_); (iterate 2 refine rq rfl rfl rfl rfl rfl ?_); refine rg_nil ?_; show HW _ _ _ _ _
              refine hw_ret ?_; refine ⟨.inr rfl, ?_⟩
              exact ⟨_, _, _, _, rfl, (by (repeat' apply And.intro) <;> first | trivial | exact Nat.le_of_ble_eq_true rfl | rfl), rfl, (by (repeat' apply And.intro) <;> first | trivial | exact Nat.le_of_ble_eq_true rfl | rfl), ⟨ccb (by simp_all), trivial⟩⟩
          · skip
            have h4 := r4
            have h4 := bif_t r3 h4
            have h4 := of_decide_eq_false h4
            try simp only [Int.toNat_natCast] at h4
            (iterate 3 refine rk rfl rfl rfl (gft r4) ?_); refine rq rfl rfl rfl rfl rfl ?_ (hp := r4); refine rq rfl rfl rfl rfl rfl ?_; (iterate 2 refine rk rfl rfl rfl rfl ?_); (iterate 2 refine rq rfl rfl rfl rfl rfl ?_)
            (iterate 3 refine rk rfl rfl rfl rfl ?_); (iterate 2 refine rq rfl rfl rfl rfl rfl ?_); (iterate 9 refine rk rfl rfl rfl rfl ?_); (iterate 2 refine rq rfl rfl rfl rfl rfl ?_); (iterate 5 refine rk rfl rfl rfl rfl ?_)
            (iterate 2 refine rq rfl rfl rfl rfl rfl ?_); refine rg_nil ?_; show HW _ _ _ _ _; refine hw_ret ?_; refine ⟨.inr rfl, ?_⟩
            exact ⟨_, _, _, _, rfl, (by (repeat' apply And.intro) <;> first | trivial | exact Nat.le_of_ble_eq_true rfl | rfl), rfl, (by (repeat' apply And.intro) <;> first | trivial | exact Nat.le_of_ble_eq_true rfl | rfl), ⟨ccb (by simp_all), trivial⟩⟩
        · skip
          have h3 := r3
          have h3 := bif_t r2 h3
          have h3 := of_decide_eq_false h3
          try simp only [Int.toNat_natCast] at h3
          (iterate 3 refine rk rfl rfl rfl (gft r3) ?_); refine rq rfl rfl rfl rfl rfl ?_ (hp := r3); refine rq rfl rfl rfl rfl rfl ?_; (iterate 3 refine rk rfl rfl rfl rfl ?_); (iterate 2 refine rq rfl rfl rfl rfl rfl ?_)
          (iterate 2 refine rk rfl rfl rfl rfl ?_); (iterate 2 refine rq rfl rfl rfl rfl rfl ?_); (iterate 3 refine rk rfl rfl rfl rfl ?_); (iterate 2 refine rq rfl rfl rfl rfl rfl ?_); (iterate 9 refine rk rfl rfl rfl rfl ?_)
          (iterate 2 refine rq rfl rfl rfl rfl rfl ?_); (iterate 5 refine rk rfl rfl rfl rfl ?_); (iterate 2 refine rq rfl rfl rfl rfl rfl ?_); refine rg_nil ?_; show HW _ _ _ _ _; refine hw_ret ?_; refine ⟨.inr rfl, ?_⟩
          exact ⟨_, _, _, _, rfl, (by (repeat' apply And.intro) <;> first | trivial | exact Nat.le_of_ble_eq_true rfl | rfl), rfl, (by (repeat' apply And.intro) <;> first | trivial | exact Nat.le_of_ble_eq_true rfl | rfl), ⟨ccb (by simp_all), trivial⟩⟩
      · skip
        have h2 := r2
        have h2 := of_decide_eq_false h2
        try simp only [Int.toNat_natCast] at h2
        (iterate 3 refine rk rfl rfl rfl (gft r2) ?_); refine rq rfl rfl rfl rfl rfl ?_ (hp := r2); refine rq rfl rfl rfl rfl rfl ?_; (iterate 3 refine rk rfl rfl rfl rfl ?_); (iterate 2 refine rq rfl rfl rfl rfl rfl ?_)
        (iterate 3 refine rk rfl rfl rfl rfl ?_); (iterate 2 refine rq rfl rfl rfl rfl rfl ?_); (iterate 2 refine rk rfl rfl rfl rfl ?_); (iterate 2 refine rq rfl rfl rfl rfl rfl ?_); (iterate 3 refine rk rfl rfl rfl rfl ?_)
        (iterate 2 refine rq rfl rfl rfl rfl rfl ?_); (iterate 9 refine rk rfl rfl rfl rfl ?_); (iterate 2 refine rq rfl rfl rfl rfl rfl ?_); (iterate 5 refine rk rfl rfl rfl rfl ?_); (iterate 2 refine rq rfl rfl rfl rfl rfl ?_)
        refine rg_nil ?_; show HW _ _ _ _ _; refine hw_ret ?_; refine ⟨.inr rfl, ?_⟩
        exact ⟨_, _, _, _, rfl, (by (repeat' apply And.intro) <;> first | trivial | exact Nat.le_of_ble_eq_true rfl | rfl), rfl, (by (repeat' apply And.intro) <;> first | trivial | exact Nat.le_of_ble_eq_true rfl | rfl), ⟨ccb (by simp_all), trivial⟩⟩
end Go.Hx
end
section
namespace Go.Hx
open Go.Proofs
set_option maxRecDepth 100000
theorem good8 : goodFn Tryd.prog 8 := ⟨Tryd.f8, Tryd.func8, by kernel_rfl, by kernel_rfl⟩
theorem cLaw8 (l : List Fd) (p : AS) : HPure Tryd.prog 8 [pP (fdl l), pA p] (prOf [pB true]) := by
  refine hpure_of (nt := 95) Trydok Tryd.func8 rfl rfl (Nat.le_of_ble_eq_true rfl) ?_; refine hw_seq ?_; refine hw_region (E := TrydE) Trydok ?_; refine rq rfl rfl rfl rfl rfl ?_; refine rg_nil ?_; show HW _ _ _ _ _
  refine hw_seq ?_; refine hw_region (E := TrydE) Trydok ?_; refine rq rfl rfl rfl rfl rfl ?_; refine rc rfl rfl rfl rfl rfl rfl good30 (cRSize p) (CoL.refl _) rfl rfl ?_; refine rq rfl rfl rfl rfl rfl ?_; refine rg_nil ?_
  show HW _ _ _ _ _; refine hw_joinK (ι := Unit) ⟨[(0, some _), (1, some _), (5, some _)], []⟩ ⟨⟨⟨_, rfl, CoR.refl _⟩, ⟨_, rfl, CoR.refl _⟩, ⟨_, rfl, CoR.refl _⟩, trivial⟩, trivial⟩ (fun _i => ⟨[], []⟩) (fun _i => True) ?_ ?_
  · skip
    refine hw_seq ?_
    refine hw_bt 0 rfl fun hlen => ?_
    refine hw_region (E := TrydE) Trydok ?_; refine rc rfl rfl rfl rfl rfl rfl good31 (cAwake) (CoL.refl _) rfl rfl ?_; (iterate 6 refine rq rfl rfl rfl rfl rfl ?_); refine rsplit rfl rfl (fun r0 => ?_) (fun r0 => ?_)
    · skip
      have h0 := r0
      have h0 := of_decide_eq_true h0
      try simp only [Int.toNat_natCast] at h0
      (iterate 3 refine rq rfl rfl rfl rfl (gtt r0) ?_); (iterate 3 refine rq rfl rfl rfl rfl rfl ?_); refine rsplit rfl rfl (fun r1 => ?_) (fun r1 => ?_)
      · skip
        have h1 := r1
        have h1 := bif_t r0 h1
        have h1 := of_decide_eq_true h1
        try simp only [Int.toNat_natCast] at h1
        (iterate 3 refine rk rfl rfl rfl (gtf r1) ?_); refine rq rfl rfl rfl rfl rfl ?_ (hp := r1); refine rq rfl rfl rfl rfl rfl ?_; (iterate 6 refine rk rfl rfl rfl rfl ?_); refine rq rfl rfl rfl rfl rfl ?_; refine rg_nil ?_
        show HW _ _ _ _ _; refine hw_cond _ rfl (fun _ => ?_) (fun e => by cases e); refine hw_seq ?_; refine hw_region (E := TrydE) Trydok ?_; refine rc rfl rfl rfl rfl rfl rfl good31 (cAwake) (CoL.refl _) rfl rfl ?_
        refine rq rfl rfl rfl rfl rfl ?_; refine rg_nil ?_; show HW _ _ _ _ _; refine hw_ret ?_; refine ⟨.inr rfl, ?_⟩
        exact ⟨_, _, _, _, rfl, (by (repeat' apply And.intro) <;> first | trivial | exact Nat.le_of_ble_eq_true rfl | rfl), rfl, (by (repeat' apply And.intro) <;> first | trivial | exact Nat.le_of_ble_eq_true rfl | rfl), CoL.refl _⟩
      · skip
        have h1 := r1
        have h1 := bif_t r0 h1
        have h1 := of_decide_eq_false h1
        try simp only [Int.toNat_natCast] at h1
        (iterate 3 refine rq rfl rfl rfl rfl (gff r1) ?_); (iterate 2 refine rq rfl rfl rfl rfl rfl ?_); refine rsplit rfl rfl (fun r2 => ?_) (fun r2 => ?_)
        · skip
          have h2 := r2
          have h2 := bif_f r1 h2
          have h2 := of_decide_eq_true h2
          try simp only [Int.toNat_natCast] at h2
          (iterate 3 refine rk rfl rfl rfl (gtf r2) ?_); (iterate 2 refine rk rfl rfl rfl rfl ?_); refine rk rfl rfl rfl (gtf r2) ?_; refine rq rfl rfl rfl rfl rfl ?_ (hp := r2); refine rg_nil ?_; show HW _ _ _ _ _
          refine hw_cond _ rfl (fun _ => ?_) (fun e => by cases e); refine hw_seq ?_; refine hw_region (E := TrydE) Trydok ?_; refine rc rfl rfl rfl rfl rfl rfl good31 (cAwake) (CoL.refl _) rfl rfl ?_
          refine rq rfl rfl rfl rfl rfl ?_; refine rg_nil ?_; show HW _ _ _ _ _; refine hw_ret ?_; refine ⟨.inr rfl, ?_⟩
          exact ⟨_, _, _, _, rfl, (by (repeat' apply And.intro) <;> first | trivial | exact Nat.le_of_ble_eq_true rfl | rfl), rfl, (by (repeat' apply And.intro) <;> first | trivial | exact Nat.le_of_ble_eq_true rfl | rfl), CoL.refl _⟩
        · skip
          have h2 := r2
          have h2 := bif_f r1 h2
          have h2 := of_decide_eq_false h2
          try simp only [Int.toNat_natCast] at h2
          (iterate 3 refine rq rfl rfl rfl rfl (gff r2) ?_); refine rsplit rfl rfl (fun r3 => ?_) (fun r3 => ?_)
          · skip
            have h3 := r3
            have h3 := of_decide_eq_true h3
            try simp only [Int.toNat_natCast] at h3
            (iterate 2 refine rq rfl rfl rfl rfl (gtt r3) ?_); refine rq rfl rfl rfl rfl (gff r2) ?_; refine rq rfl rfl rfl rfl rfl ?_; refine rg_nil ?_; show HW _ _ _ _ _; refine hw_cond _ rfl (fun r4 => ?_) (fun r4 => ?_)
            · skip
              have h4 := r4
              have h4 := bif_f r2 h4
              have h4 := bif_t r3 h4
              have h4 := of_decide_eq_true h4
              try simp only [Int.toNat_natCast] at h4
              refine hw_seq ?_; refine hw_region (E := TrydE) Trydok ?_; refine rc rfl rfl rfl rfl rfl rfl good31 (cAwake) (CoL.refl _) rfl rfl ?_; refine rq rfl rfl rfl rfl rfl ?_; refine rg_nil ?_; show HW _ _ _ _ _
              refine hw_ret ?_; refine ⟨.inr rfl, ?_⟩
              exact ⟨_, _, _, _, rfl, (by (repeat' apply And.intro) <;> first | trivial | exact Nat.le_of_ble_eq_true rfl | rfl), rfl, (by (repeat' apply And.intro) <;> first | trivial | exact Nat.le_of_ble_eq_true rfl | rfl), CoL.refl _⟩
            · skip
              have h4 := r4
              have h4 := bif_f r2 h4
              have h4 := bif_t r3 h4
              have h4 := of_decide_eq_false h4
              try simp only [Int.toNat_natCast] at h4
              refine hw_skip ?_; refine ⟨(), ?_, ?_⟩
              · trivial
              · exact ⟨⟨⟨_, rfl, CoR.refl _⟩, ⟨_, rfl, CoR.refl _⟩, ⟨_, rfl, CoR.refl _⟩, trivial⟩, trivial⟩
          · skip
            have h3 := r3
            have h3 := of_decide_eq_false h3
            try simp only [Int.toNat_natCast] at h3
            (iterate 2 refine rk rfl rfl rfl (gft r3) ?_); refine rq rfl rfl rfl rfl (gff r2) ?_ (hp := r3); refine rq rfl rfl rfl rfl rfl ?_; refine rg_nil ?_; show HW _ _ _ _ _
            refine hw_cond _ rfl (fun e => Bool.noConfusion ((bif_fk r2 rfl).symm.trans e)) (fun _ => ?_); refine hw_skip ?_; refine ⟨(), ?_, ?_⟩
            · trivial
            · exact ⟨⟨⟨_, rfl, CoR.refl _⟩, ⟨_, rfl, CoR.refl _⟩, ⟨_, rfl, CoR.refl _⟩, trivial⟩, trivial⟩
    · skip
      have h0 := r0
      have h0 := of_decide_eq_false h0
      try simp only [Int.toNat_natCast] at h0
      (iterate 3 refine rk rfl rfl rfl (gft r0) ?_); refine rq rfl rfl rfl rfl rfl ?_ (hp := r0); (iterate 2 refine rq rfl rfl rfl rfl rfl ?_); (iterate 3 refine rq rfl rfl rfl rfl (gff (bif_fk rfl rfl)) ?_)
      (iterate 2 refine rq rfl rfl rfl rfl rfl ?_); refine rsplit rfl rfl (fun r5 => ?_) (fun r5 => ?_)
      · skip
        have h5 := r5
        have h5 := bif_f (bif_fk rfl rfl) h5
        have h5 := of_decide_eq_true h5
        try simp only [Int.toNat_natCast] at h5
        (iterate 3 refine rk rfl rfl rfl (gtf r5) ?_); (iterate 2 refine rk rfl rfl rfl rfl ?_); refine rk rfl rfl rfl (gtf r5) ?_; refine rq rfl rfl rfl rfl rfl ?_ (hp := r5); refine rg_nil ?_; show HW _ _ _ _ _
        refine hw_cond _ rfl (fun _ => ?_) (fun e => by cases e); refine hw_seq ?_; refine hw_region (E := TrydE) Trydok ?_; refine rc rfl rfl rfl rfl rfl rfl good31 (cAwake) (CoL.refl _) rfl rfl ?_; refine rq rfl rfl rfl rfl rfl ?_
        refine rg_nil ?_; show HW _ _ _ _ _; refine hw_ret ?_; refine ⟨.inr rfl, ?_⟩
        exact ⟨_, _, _, _, rfl, (by (repeat' apply And.intro) <;> first | trivial | exact Nat.le_of_ble_eq_true rfl | rfl), rfl, (by (repeat' apply And.intro) <;> first | trivial | exact Nat.le_of_ble_eq_true rfl | rfl), CoL.refl _⟩
      · skip
        have h5 := r5
        have h5 := bif_f (bif_fk rfl rfl) h5
        have h5 := of_decide_eq_false h5
        try simp only [Int.toNat_natCast] at h5
        (iterate 3 refine rq rfl rfl rfl rfl (gff r5) ?_); refine rsplit rfl rfl (fun r6 => ?_) (fun r6 => ?_)
        · skip
          have h6 := r6
          have h6 := of_decide_eq_true h6
          try simp only [Int.toNat_natCast] at h6
          (iterate 2 refine rq rfl rfl rfl rfl (gtt r6) ?_); refine rq rfl rfl rfl rfl (gff r5) ?_; refine rq rfl rfl rfl rfl rfl ?_; refine rg_nil ?_; show HW _ _ _ _ _; refine hw_cond _ rfl (fun r7 => ?_) (fun r7 => ?_)
          · skip
            have h7 := r7
            have h7 := bif_f r5 h7
            have h7 := bif_t r6 h7
            have h7 := of_decide_eq_true h7
            try simp only [Int.toNat_natCast] at h7
            refine hw_seq ?_; refine hw_region (E := TrydE) Trydok ?_; refine rc rfl rfl rfl rfl rfl rfl good31 (cAwake) (CoL.refl _) rfl rfl ?_; refine rq rfl rfl rfl rfl rfl ?_; refine rg_nil ?_; show HW _ _ _ _ _
            refine hw_ret ?_; refine ⟨.inr rfl, ?_⟩
            exact ⟨_, _, _, _, rfl, (by (repeat' apply And.intro) <;> first | trivial | exact Nat.le_of_ble_eq_true rfl | rfl), rfl, (by (repeat' apply And.intro) <;> first | trivial | exact Nat.le_of_ble_eq_true rfl | rfl), CoL.refl _⟩
          · skip
            have h7 := r7
            have h7 := bif_f r5 h7
            have h7 := bif_t r6 h7
            have h7 := of_decide_eq_false h7
            try simp only [Int.toNat_natCast] at h7
            refine hw_skip ?_; refine ⟨(), ?_, ?_⟩
            · trivial
            · exact ⟨⟨⟨_, rfl, CoR.refl _⟩, ⟨_, rfl, CoR.refl _⟩, ⟨_, rfl, CoR.refl _⟩, trivial⟩, trivial⟩
        · skip
          have h6 := r6
          have h6 := of_decide_eq_false h6
          try simp only [Int.toNat_natCast] at h6
          (iterate 2 refine rk rfl rfl rfl (gft r6) ?_); refine rq rfl rfl rfl rfl (gff r5) ?_ (hp := r6); refine rq rfl rfl rfl rfl rfl ?_; refine rg_nil ?_; show HW _ _ _ _ _
          refine hw_cond _ rfl (fun e => Bool.noConfusion ((bif_fk r5 rfl).symm.trans e)) (fun _ => ?_); refine hw_skip ?_; refine ⟨(), ?_, ?_⟩
          · trivial
          · exact ⟨⟨⟨_, rfl, CoR.refl _⟩, ⟨_, rfl, CoR.refl _⟩, ⟨_, rfl, CoR.refl _⟩, trivial⟩, trivial⟩
  · rintro _ _
    refine hw_seq ?_; refine hw_region (E := TrydE) Trydok ?_; (iterate 2 refine rq rfl rfl rfl rfl rfl ?_); refine rc rfl rfl rfl rfl rfl rfl good32 (cVio l p) (CoL.refl _) rfl rfl ?_; (iterate 4 refine rq rfl rfl rfl rfl rfl ?_)
    refine rm 0 rfl rfl rfl rfl rfl rfl ?_; refine rs rfl rfl rfl rfl rfl ?_; (iterate 2 refine rq rfl rfl rfl rfl rfl ?_); refine rg_nil ?_; show HW _ _ _ _ _; refine hw_seq ?_; refine hw_region (E := TrydE) Trydok ?_
    refine rq rfl rfl rfl rfl rfl ?_; refine rc rfl rfl rfl rfl rfl rfl good19 (cRValid 16 l) (CoL.refl _) rfl rfl ?_; refine rq rfl rfl rfl rfl rfl ?_; refine rg_nil ?_; show HW _ _ _ _ _
    refine hw_joinK (ι := Unit) ⟨[(0, some _), (1, some _), (6, some _), (7, some _), (8, some _)], [(0, some _)]⟩ ⟨⟨⟨_, rfl, CoR.refl _⟩, ⟨_, rfl, CoR.refl _⟩, ⟨_, rfl, CoR.refl _⟩, ⟨_, rfl, CoR.refl _⟩, ⟨_, rfl, CoR.refl _⟩, trivial⟩, ⟨⟨_, rfl, CoO.refl _⟩, trivial⟩⟩ (fun _i => ⟨[(9, some (vI (w1 l p)))], []⟩) (fun _i => True) ?_ ?_
    · skip
      refine hw_seq ?_; refine hw_region (E := TrydE) Trydok ?_; (iterate 3 refine rq rfl rfl rfl rfl rfl ?_); refine rsplit rfl rfl (fun r8 => ?_) (fun r8 => ?_)
      · skip
        have h8 := r8
        have h8 := of_decide_eq_true h8
        try simp only [Int.toNat_natCast] at h8
        (iterate 2 refine rq rfl rfl rfl rfl (gtt r8) ?_); refine rq rfl rfl rfl rfl rfl ?_; refine rg_nil ?_; show HW _ _ _ _ _; refine hw_cond _ rfl (fun r9 => ?_) (fun r9 => ?_)
        · skip
          have h9 := r9
          have h9 := bif_t r8 h9
          have h9 := of_decide_eq_true h9
          try simp only [Int.toNat_natCast] at h9
          refine hw_region (E := TrydE) Trydok ?_; refine rq rfl rfl rfl rfl rfl ?_; refine rg_nil ?_; refine ⟨(), ?_, ?_⟩
          · trivial
          · exact ⟨⟨⟨_, rfl, (coi (by first | exact w1_t (by assumption) (by assumption) | exact w1_f1 (by assumption) | exact w1_f2 (by assumption)))⟩, ⟨_, rfl, CoR.refl _⟩, ⟨_, rfl, CoR.refl _⟩, ⟨_, rfl, CoR.refl _⟩, ⟨_, rfl, CoR.refl _⟩, ⟨_, rfl, CoR.refl _⟩, trivial⟩, ⟨⟨_, rfl, CoO.refl _⟩, trivial⟩⟩
        · skip
          have h9 := r9
          have h9 := bif_t r8 h9
          have h9 := of_decide_eq_false h9
          try simp only [Int.toNat_natCast] at h9
          refine hw_skip ?_; refine ⟨(), ?_, ?_⟩
          · trivial
          · exact ⟨⟨⟨_, rfl, (coi (by first | exact w1_t (by assumption) (by assumption) | exact w1_f1 (by assumption) | exact w1_f2 (by assumption)))⟩, ⟨_, rfl, CoR.refl _⟩, ⟨_, rfl, CoR.refl _⟩, ⟨_, rfl, CoR.refl _⟩, ⟨_, rfl, CoR.refl _⟩, ⟨_, rfl, CoR.refl _⟩, trivial⟩, ⟨⟨_, rfl, CoO.refl _⟩, trivial⟩⟩
      · skip
        have h8 := r8
        have h8 := of_decide_eq_false h8
        try simp only [Int.toNat_natCast] at h8
        (iterate 2 refine rk rfl rfl rfl (gft r8) ?_); refine rq rfl rfl rfl rfl rfl ?_ (hp := r8); refine rg_nil ?_; show HW _ _ _ _ _; refine hw_cond _ rfl (fun e => by cases e) (fun _ => ?_); refine hw_skip ?_
        refine ⟨(), ?_, ?_⟩
        · trivial
        · exact ⟨⟨⟨_, rfl, (coi (by first | exact w1_t (by assumption) (by assumption) | exact w1_f1 (by assumption) | exact w1_f2 (by assumption)))⟩, ⟨_, rfl, CoR.refl _⟩, ⟨_, rfl, CoR.refl _⟩, ⟨_, rfl, CoR.refl _⟩, ⟨_, rfl, CoR.refl _⟩, ⟨_, rfl, CoR.refl _⟩, trivial⟩, ⟨⟨_, rfl, CoO.refl _⟩, trivial⟩⟩
    · rintro _ _
      refine hw_joinK (ι := Unit) ⟨[(0, some _), (1, some _), (6, some _), (7, some _), (8, some _)], [(0, some _)]⟩ ⟨⟨⟨_, rfl, CoR.refl _⟩, ⟨_, rfl, CoR.refl _⟩, ⟨_, rfl, CoR.refl _⟩, ⟨_, rfl, CoR.refl _⟩, ⟨_, rfl, CoR.refl _⟩, trivial⟩, ⟨⟨_, rfl, CoO.refl _⟩, trivial⟩⟩ (fun _i => ⟨[(9, some (vI (vioE l p)))], []⟩) (fun _i => True) ?_ ?_
      · skip
        refine hw_seq ?_; refine hw_region (E := TrydE) Trydok ?_; (iterate 3 refine rq rfl rfl rfl rfl rfl ?_); refine rsplit rfl rfl (fun r10 => ?_) (fun r10 => ?_)
        · skip
          have h10 := r10
          have h10 := of_decide_eq_true h10
          try simp only [Int.toNat_natCast] at h10
          refine rq rfl rfl rfl rfl (gtt r10) ?_; refine rc rfl rfl rfl rfl rfl rfl good28 (cRFull 16) (CoL.refl _) rfl (gtt r10) ?_; refine rc rfl rfl rfl rfl rfl rfl good33 (cRSub p (fullI 16)) (CoL.refl _) rfl (gtt r10) ?_
          refine rq rfl rfl rfl rfl (gtt r10) ?_; refine rq rfl rfl rfl rfl rfl ?_; refine rg_nil ?_; show HW _ _ _ _ _; refine hw_cond _ rfl (fun r11 => ?_) (fun r11 => ?_)
          · skip
            have h11 := r11
            have h11 := bif_t r10 h11
            have h11 := not_t h11
            refine hw_region (E := TrydE) Trydok ?_; refine rq rfl rfl rfl rfl rfl ?_; refine rg_nil ?_; refine ⟨(), ?_, ?_⟩
            · trivial
            · exact ⟨⟨⟨_, rfl, (coi (by first | exact w2_t (by assumption) (of_decide_eq_false (not_t (by assumption))) | exact w2_t (by assumption) (of_decide_eq_false (by assumption)) | exact w2_t (by assumption) (by assumption) | exact w2_f1 (by assumption) | exact w2_f2 (by assumption) | exact w2_f2 (of_decide_eq_true (by assumption)) | exact w2_f2 (of_decide_eq_true (not_f (by assumption)))))⟩, ⟨_, rfl, CoR.refl _⟩, ⟨_, rfl, CoR.refl _⟩, ⟨_, rfl, CoR.refl _⟩, ⟨_, rfl, CoR.refl _⟩, ⟨_, rfl, CoR.refl _⟩, trivial⟩, ⟨⟨_, rfl, CoO.refl _⟩, trivial⟩⟩
          · skip
            have h11 := r11
            have h11 := bif_t r10 h11
            have h11 := not_f h11
            refine hw_skip ?_; refine ⟨(), ?_, ?_⟩
            · trivial
            · exact ⟨⟨⟨_, rfl, (coi (by first | exact w2_t (by assumption) (of_decide_eq_false (not_t (by assumption))) | exact w2_t (by assumption) (of_decide_eq_false (by assumption)) | exact w2_t (by assumption) (by assumption) | exact w2_f1 (by assumption) | exact w2_f2 (by assumption) | exact w2_f2 (of_decide_eq_true (by assumption)) | exact w2_f2 (of_decide_eq_true (not_f (by assumption)))))⟩, ⟨_, rfl, CoR.refl _⟩, ⟨_, rfl, CoR.refl _⟩, ⟨_, rfl, CoR.refl _⟩, ⟨_, rfl, CoR.refl _⟩, ⟨_, rfl, CoR.refl _⟩, trivial⟩, ⟨⟨_, rfl, CoO.refl _⟩, trivial⟩⟩
        · skip
          have h10 := r10
          have h10 := of_decide_eq_false h10
          try simp only [Int.toNat_natCast] at h10
          (iterate 4 refine rk rfl rfl rfl (gft r10) ?_); refine rq rfl rfl rfl rfl rfl ?_ (hp := r10); refine rg_nil ?_; show HW _ _ _ _ _; refine hw_cond _ rfl (fun e => by cases e) (fun _ => ?_); refine hw_skip ?_
          refine ⟨(), ?_, ?_⟩
          · trivial
          · exact ⟨⟨⟨_, rfl, (coi (by first | exact w2_t (by assumption) (of_decide_eq_false (not_t (by assumption))) | exact w2_t (by assumption) (of_decide_eq_false (by assumption)) | exact w2_t (by assumption) (by assumption) | exact w2_f1 (by assumption) | exact w2_f2 (by assumption) | exact w2_f2 (of_decide_eq_true (by assumption)) | exact w2_f2 (of_decide_eq_true (not_f (by assumption)))))⟩, ⟨_, rfl, CoR.refl _⟩, ⟨_, rfl, CoR.refl _⟩, ⟨_, rfl, CoR.refl _⟩, ⟨_, rfl, CoR.refl _⟩, ⟨_, rfl, CoR.refl _⟩, trivial⟩, ⟨⟨_, rfl, CoO.refl _⟩, trivial⟩⟩
      · rintro _ _
        (iterate 2 refine hw_seq ?_); refine hw_region (E := TrydE) Trydok ?_; (iterate 2 refine rq rfl rfl rfl rfl rfl ?_); refine rg_nil ?_; show HW _ _ _ _ _; refine hw_cond _ rfl (fun r12 => ?_) (fun r12 => ?_)
        · skip
          have h12 := r12
          have h12 := of_decide_eq_false (not_t h12)
          try simp only [Int.toNat_natCast] at h12
          refine hw_seq ?_; refine hw_region (E := TrydE) Trydok ?_; (iterate 4 refine rq rfl rfl rfl rfl rfl ?_); refine rsplit rfl rfl (fun r13 => ?_) (fun r13 => ?_)
          · skip
            have h13 := r13
            have h13 := of_decide_eq_true h13
            try simp only [Int.toNat_natCast] at h13
            (iterate 2 refine rq rfl rfl rfl rfl (gtt r13) ?_); (iterate 2 refine rq rfl rfl rfl rfl rfl ?_); refine rsplit rfl rfl (fun r14 => ?_) (fun r14 => ?_)
            · skip
              have h14 := r14
              have h14 := bif_t r13 h14
              have h14 := not_t h14
              (iterate 3 refine rq rfl rfl rfl rfl (gtt r14) ?_); (iterate 2 refine rq rfl rfl rfl rfl rfl ?_); refine rg_nil ?_; show HW _ _ _ _ _; refine hw_ret ?_; refine ⟨.inr rfl, ?_⟩
              exact ⟨_, _, _, _, rfl, (by (repeat' apply And.intro) <;> first | trivial | exact Nat.le_of_ble_eq_true rfl | rfl), rfl, (by (repeat' apply And.intro) <;> first | trivial | exact Nat.le_of_ble_eq_true rfl | rfl), ⟨ccb (by first | (have he := vio_x (l := l) (p := p) (by assumption); simp_all; done) | (have he := vio_y (l := l) (p := p) (by assumption); simp_all; done)), trivial⟩⟩
            · skip
              have h14 := r14
              have h14 := bif_t r13 h14
              have h14 := not_f h14
              (iterate 3 refine rk rfl rfl rfl (gft r14) ?_); refine rq rfl rfl rfl rfl rfl ?_ (hp := r14); refine rq rfl rfl rfl rfl rfl ?_; refine rg_nil ?_; show HW _ _ _ _ _; refine hw_ret ?_; refine ⟨.inr rfl, ?_⟩
              exact ⟨_, _, _, _, rfl, (by (repeat' apply And.intro) <;> first | trivial | exact Nat.le_of_ble_eq_true rfl | rfl), rfl, (by (repeat' apply And.intro) <;> first | trivial | exact Nat.le_of_ble_eq_true rfl | rfl), ⟨ccb (by first | (have he := vio_x (l := l) (p := p) (by assumption); simp_all; done) | (have he := vio_y (l := l) (p := p) (by assumption); simp_all; done)), trivial⟩⟩
          · skip
            have h13 := r13
            have h13 := of_decide_eq_false h13
            try simp only [Int.toNat_natCast] at h13
            (iterate 2 refine rk rfl rfl rfl (gft r13) ?_); refine rq rfl rfl rfl rfl rfl ?_ (hp := r13); refine rq rfl rfl rfl rfl rfl ?_; (iterate 3 refine rk rfl rfl rfl rfl ?_); (iterate 2 refine rq rfl rfl rfl rfl rfl ?_)
            refine rg_nil ?_; show HW _ _ _ _ _; refine hw_ret ?_; refine ⟨.inr rfl, ?_⟩
            exact ⟨_, _, _, _, rfl, (by (repeat' apply And.intro) <;> first | trivial | exact Nat.le_of_ble_eq_true rfl | rfl), rfl, (by (repeat' apply And.intro) <;> first | trivial | exact Nat.le_of_ble_eq_true rfl | rfl), ⟨ccb (by first | (have he := vio_x (l := l) (p := p) (by assumption); simp_all; done) | (have he := vio_y (l := l) (p := p) (by assumption); simp_all; done)), trivial⟩⟩
        · skip
          have h12 := r12
          have h12 := of_decide_eq_true (not_f h12)
          try simp only [Int.toNat_natCast] at h12
          refine hw_skip ?_; show HW _ _ _ _ _; refine hw_seq ?_; refine hw_region (E := TrydE) Trydok ?_; (iterate 2 refine rq rfl rfl rfl rfl rfl ?_); refine rc rfl rfl rfl rfl rfl rfl good34 (cRViol l p) (CoL.refl _) rfl rfl ?_
          (iterate 3 refine rq rfl rfl rfl rfl rfl ?_); refine rm 1 rfl rfl rfl rfl rfl rfl ?_; refine rs rfl rfl rfl rfl rfl ?_; refine rq rfl rfl rfl rfl rfl ?_; refine rg_nil ?_; show HW _ _ _ _ _; refine hw_seq ?_
          refine hw_region (E := TrydE) Trydok ?_; (iterate 3 refine rq rfl rfl rfl rfl rfl ?_); refine rsplit rfl rfl (fun r15 => ?_) (fun r15 => ?_)
          · skip
            have h15 := r15
            have h15 := of_decide_eq_true h15
            try simp only [Int.toNat_natCast] at h15
            (iterate 3 refine rq rfl rfl rfl rfl (gtt r15) ?_); (iterate 2 refine rq rfl rfl rfl rfl rfl ?_); refine rsplit rfl rfl (fun r16 => ?_) (fun r16 => ?_)
            · skip
              have h16 := r16
              have h16 := bif_t r15 h16
              (iterate 3 refine rq rfl rfl rfl rfl (gtt r16) ?_); (iterate 2 refine rq rfl rfl rfl rfl rfl ?_); refine rg_nil ?_; show HW _ _ _ _ _; refine hw_ret ?_; refine ⟨.inr rfl, ?_⟩
              exact ⟨_, _, _, _, rfl, (by (repeat' apply And.intro) <;> first | trivial | exact Nat.le_of_ble_eq_true rfl | rfl), rfl, (by (repeat' apply And.intro) <;> first | trivial | exact Nat.le_of_ble_eq_true rfl | rfl), ⟨ccb (by first | (have he := vio_x (l := l) (p := p) (by assumption); simp_all; done) | (have he := vio_y (l := l) (p := p) (by assumption); simp_all; done)), trivial⟩⟩
            · skip
              have h16 := r16
              have h16 := bif_t r15 h16
              (iterate 3 refine rk rfl rfl rfl (gft r16) ?_); refine rq rfl rfl rfl rfl rfl ?_ (hp := r16); refine rq rfl rfl rfl rfl rfl ?_; refine rg_nil ?_; show HW _ _ _ _ _; refine hw_ret ?_; refine ⟨.inr rfl, ?_⟩
              exact ⟨_, _, _, _, rfl, (by (repeat' apply And.intro) <;> first | trivial | exact Nat.le_of_ble_eq_true rfl | rfl), rfl, (by (repeat' apply And.intro) <;> first | trivial | exact Nat.le_of_ble_eq_true rfl | rfl), ⟨ccb (by first | (have he := vio_x (l := l) (p := p) (by assumption); simp_all; done) | (have he := vio_y (l := l) (p := p) (by assumption); simp_all; done)), trivial⟩⟩
          · skip
            have h15 := r15
            have h15 := of_decide_eq_false h15
            try simp only [Int.toNat_natCast] at h15
            (iterate 3 refine rk rfl rfl rfl (gft r15) ?_); refine rq rfl rfl rfl rfl rfl ?_ (hp := r15); refine rq rfl rfl rfl rfl rfl ?_; (iterate 3 refine rk rfl rfl rfl rfl ?_); (iterate 2 refine rq rfl rfl rfl rfl rfl ?_)
            refine rg_nil ?_; show HW _ _ _ _ _; refine hw_ret ?_; refine ⟨.inr rfl, ?_⟩
            exact ⟨_, _, _, _, rfl, (by (repeat' apply And.intro) <;> first | trivial | exact Nat.le_of_ble_eq_true rfl | rfl), rfl, (by (repeat' apply And.intro) <;> first | trivial | exact Nat.le_of_ble_eq_true rfl | rfl), ⟨ccb (by first | (have he := vio_x (l := l) (p := p) (by assumption); simp_all; done) | (have he := vio_y (l := l) (p := p) (by assumption); simp_all; done)), trivial⟩⟩
end Go.Hx
end
