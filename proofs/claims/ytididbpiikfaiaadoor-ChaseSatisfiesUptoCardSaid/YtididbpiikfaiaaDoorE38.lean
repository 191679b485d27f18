/- A part of the proof: lemmas for the theorem of this claim, merged by a program of ours out of X32, Cc5. -/
import Derived.Test.YtididbpiikfaiaaDoorE31
import Derived.Test.YtididbpiikfaiaaDoorE37
set_option linter.all false
section
namespace Go.Hx
open Go.Proofs
set_option maxRecDepth 100000
theorem cLawSteps (d : Rcp) (hf : d.f.length ≤ 16777216) (hm : d.m.length ≤ 16777216) (hp : d.p.length ≤ 16777216) : HPure Tryd.prog 5 [d.pc] (prOf [pB true]) := by
  refine hpure_of (nt := 87) Trydok Tryd.func5 rfl rfl (Nat.le_of_ble_eq_true rfl) ?_; refine hw_seq ?_; refine hw_region (E := TrydE) Trydok ?_; refine rm 0 rfl rfl rfl rfl rfl rfl ?_; refine rq rfl rfl rfl rfl rfl ?_
  refine rg_nil ?_; show HW _ _ _ _ _; refine hw_seq ?_; refine hw_region (E := TrydE) Trydok ?_; refine rq rfl rfl rfl rfl rfl ?_; refine rc rfl rfl rfl rfl rfl rfl good23 (cOf4 d hf hm hp) (CoL.refl _) rfl rfl ?_
  (iterate 11 refine rq rfl rfl rfl rfl rfl ?_); refine rg_nil ?_; show HW _ _ _ _ _; (iterate 2 refine hw_seq ?_); refine hw_region (E := TrydE) Trydok ?_; refine rc rfl rfl rfl rfl rfl rfl good11 (cAwake) (CoL.refl _) rfl rfl ?_
  (iterate 5 refine rq rfl rfl rfl rfl rfl ?_); refine rg_nil ?_; show HW _ _ _ _ _; refine hw_cond _ rfl (fun r0 => ?_) (fun r0 => ?_)
  · skip
    have h0 := r0
    have h0 := not_t h0
    refine hw_seq ?_; refine hw_region (E := TrydE) Trydok ?_; refine rc rfl rfl rfl rfl rfl rfl good11 (cAwake) (CoL.refl _) rfl rfl ?_; refine rq rfl rfl rfl rfl rfl ?_; refine rg_nil ?_; show HW _ _ _ _ _; refine hw_ret ?_
    refine ⟨.inr rfl, ?_⟩
    exact ⟨_, _, _, _, rfl, (by (repeat' apply And.intro) <;> first | trivial | exact Nat.le_of_ble_eq_true rfl | rfl), rfl, (by (repeat' apply And.intro) <;> first | trivial | exact Nat.le_of_ble_eq_true rfl | rfl), CoL.refl _⟩
  · skip
    have h0 := r0
    have h0 := not_f h0
    have hok : d.f.length ≤ 4 ∧ d.m.length ≤ 4 ∧ d.p.length ≤ 3 := of_decide_eq_true (by simp_all)
    obtain ⟨hf4, hm4, hp3⟩ := hok
    have hbe := rcp_err d (k := 4) (by decide) hf4 hm4
    have hT0 := rcp_tok d (k := 4) (by decide) hp3
    obtain ⟨hlen0, hbig0⟩ := tok_big hT0
    have hS0 := rcp_small d (k := 4) (by decide) hp3 (p := d.fs 4) (m := d.ms 4)
    refine hw_skip ?_; show HW _ _ _ _ _; refine hw_seq ?_; refine hw_region (E := TrydE) Trydok ?_; (iterate 2 refine rq rfl rfl rfl rfl rfl ?_)
    refine rc rfl rfl rfl rfl rfl rfl good21 (cRStartX d 4 (by decide) hp3) (CoL.refl _) rfl rfl ?_; (iterate 3 refine rq rfl rfl rfl rfl rfl ?_); refine rm 1 rfl rfl rfl rfl rfl rfl ?_; refine rs rfl rfl rfl rfl rfl ?_
    refine rq rfl rfl rfl rfl rfl ?_; refine rg_nil ?_; show HW _ _ _ _ _; refine hw_seq ?_; refine hw_region (E := TrydE) Trydok ?_; refine rq rfl rfl rfl rfl rfl ?_
    refine rc rfl rfl rfl rfl rfl rfl good14 (cLCopiedP (d.num 4) (d.t0 4) hbig0 (by omega)) (CoL.refl _) rfl rfl ?_; (iterate 2 refine rq rfl rfl rfl rfl rfl ?_)
    refine rc rfl rfl rfl rfl rfl rfl good24 (cSteps FU (d.num 4) (d.t0 4) (d.fs 4) (d.ms 4) (fun h => mu_all h) (by decide)) (CoL.refl _) rfl rfl ?_; (iterate 4 refine rq rfl rfl rfl rfl rfl ?_)
    refine rm 2 rfl rfl rfl rfl rfl rfl ?_; refine rq rfl rfl rfl rfl rfl ?_; refine rs rfl rfl rfl rfl rfl ?_; refine rq rfl rfl rfl rfl rfl ?_; refine rg_nil ?_; show HW _ _ _ _ _; refine hw_seq ?_
    refine hw_region (E := TrydE) Trydok ?_; (iterate 3 refine rq rfl rfl rfl rfl rfl ?_)
    refine rc rfl rfl rfl rfl rfl rfl good25 (cRSteps FU (d.num 4) (d.t0 4) (d.fs 4) (d.ms 4) (fun h => mu_all h) (by decide)) (CoL.refl _) rfl rfl ?_; (iterate 4 refine rq rfl rfl rfl rfl rfl ?_)
    refine rm 3 rfl rfl rfl rfl rfl rfl ?_; refine rq rfl rfl rfl rfl rfl ?_; refine rs rfl rfl rfl rfl rfl ?_; refine rq rfl rfl rfl rfl rfl ?_; refine rg_nil ?_; show HW _ _ _ _ _; refine hw_seq ?_
    refine hw_region (E := TrydE) Trydok ?_; refine rq rfl rfl rfl rfl rfl ?_; refine rc rfl rfl rfl rfl rfl rfl good14 (cLCopiedP (d.num 4) (d.t0 4) hbig0 (by omega)) (CoL.refl _) rfl rfl ?_
    (iterate 2 refine rq rfl rfl rfl rfl rfl ?_); refine rc rfl rfl rfl rfl rfl rfl good26 (cRun (d.num 4) (d.t0 4) (d.fs 4) (d.ms 4)) (CoL.refl _) rfl rfl ?_; (iterate 3 refine rq rfl rfl rfl rfl rfl ?_)
    refine rm 4 rfl rfl rfl rfl rfl rfl ?_; refine rs rfl rfl rfl rfl rfl ?_; refine rq rfl rfl rfl rfl rfl ?_; refine rg_nil ?_; show HW _ _ _ _ _; refine hw_seq ?_; refine hw_region (E := TrydE) Trydok ?_
    (iterate 4 refine rq rfl rfl rfl rfl rfl ?_); refine rsplit rfl rfl (fun r1 => ?_) (fun r1 => ?_)
    · skip
      have h1 := r1
      have h1 := of_decide_eq_true h1
      try simp only [Int.toNat_natCast] at h1
      (iterate 3 refine rq rfl rfl rfl rfl (gtt r1) ?_); (iterate 2 refine rq rfl rfl rfl rfl rfl ?_); refine rsplit rfl rfl (fun r2 => ?_) (fun r2 => ?_)
      · skip
        have h2 := r2
        have h2 := bif_t r1 h2
        have h2 := of_decide_eq_true h2
        try simp only [Int.toNat_natCast] at h2
        (iterate 2 refine rq rfl rfl rfl rfl (gtt r2) ?_); refine rc rfl rfl rfl rfl rfl rfl good27 (cEqStX (chaseE FU (d.num 4) (d.t0 4) (d.fs 4) (d.ms 4)).1) (CoL.refl _) rfl (gtt r2) ?_
        (iterate 2 refine rq rfl rfl rfl rfl rfl ?_); refine rsplit rfl rfl (fun r3 => ?_) (fun r3 => ?_)
        · skip
          have h3 := r3
          have h3 := bif_t r2 h3
          (iterate 2 refine rq rfl rfl rfl rfl (gtt r3) ?_)
          refine rc rfl rfl rfl rfl rfl rfl good22 (cSameX (chaseE FU (d.num 4) (d.t0 4) (d.fs 4) (d.ms 4)).2.1.1 (chaseE FU (d.num 4) (d.t0 4) (d.fs 4) (d.ms 4)).2.1.2) (CoL.refl _) rfl (gtt r3) ?_
          (iterate 2 refine rq rfl rfl rfl rfl rfl ?_); refine rsplit rfl rfl (fun r4 => ?_) (fun r4 => ?_)
          · skip
            have h4 := r4
            have h4 := bif_t r3 h4
            (iterate 2 refine rq rfl rfl rfl rfl (gtt r4) ?_)
            refine rc rfl rfl rfl rfl rfl rfl good22 (cSameX (chaseE FU (d.num 4) (d.t0 4) (d.fs 4) (d.ms 4)).2.1.1 (chaseE FU (d.num 4) (d.t0 4) (d.fs 4) (d.ms 4)).2.1.2) (CoL.refl _) rfl (gtt r4) ?_
            (iterate 2 refine rq rfl rfl rfl rfl rfl ?_); refine rg_nil ?_; show HW _ _ _ _ _; refine hw_ret ?_; refine ⟨.inr rfl, ?_⟩
            exact ⟨_, _, _, _, rfl, (by (repeat' apply And.intro) <;> first | trivial | exact Nat.le_of_ble_eq_true rfl | rfl), rfl, (by (repeat' apply And.intro) <;> first | trivial | exact Nat.le_of_ble_eq_true rfl | rfl), ⟨ccb (by simp_all), trivial⟩⟩
          · skip
            have h4 := r4
            have h4 := bif_t r3 h4
            (iterate 3 refine rk rfl rfl rfl (gft r4) ?_); refine rq rfl rfl rfl rfl rfl ?_ (hp := r4); refine rq rfl rfl rfl rfl rfl ?_; refine rg_nil ?_; show HW _ _ _ _ _; refine hw_ret ?_; refine ⟨.inr rfl, ?_⟩
            exact ⟨_, _, _, _, rfl, (by (repeat' apply And.intro) <;> first | trivial | exact Nat.le_of_ble_eq_true rfl | rfl), rfl, (by (repeat' apply And.intro) <;> first | trivial | exact Nat.le_of_ble_eq_true rfl | rfl), ⟨ccb (by simp_all), trivial⟩⟩
        · skip
          have h3 := r3
          have h3 := bif_t r2 h3
          (iterate 3 refine rk rfl rfl rfl (gft r3) ?_); refine rq rfl rfl rfl rfl rfl ?_ (hp := r3); refine rq rfl rfl rfl rfl rfl ?_; (iterate 3 refine rk rfl rfl rfl rfl ?_); (iterate 2 refine rq rfl rfl rfl rfl rfl ?_)
          refine rg_nil ?_; show HW _ _ _ _ _; refine hw_ret ?_; refine ⟨.inr rfl, ?_⟩
          exact ⟨_, _, _, _, rfl, (by (repeat' apply And.intro) <;> first | trivial | exact Nat.le_of_ble_eq_true rfl | rfl), rfl, (by (repeat' apply And.intro) <;> first | trivial | exact Nat.le_of_ble_eq_true rfl | rfl), ⟨ccb (by simp_all), trivial⟩⟩
      · skip
        have h2 := r2
        have h2 := bif_t r1 h2
        have h2 := of_decide_eq_false h2
        try simp only [Int.toNat_natCast] at h2
        (iterate 3 refine rk rfl rfl rfl (gft r2) ?_); refine rq rfl rfl rfl rfl rfl ?_ (hp := r2); refine rq rfl rfl rfl rfl rfl ?_; (iterate 3 refine rk rfl rfl rfl rfl ?_); (iterate 2 refine rq rfl rfl rfl rfl rfl ?_)
        (iterate 3 refine rk rfl rfl rfl rfl ?_); (iterate 2 refine rq rfl rfl rfl rfl rfl ?_); refine rg_nil ?_; show HW _ _ _ _ _; refine hw_ret ?_; refine ⟨.inr rfl, ?_⟩
        exact ⟨_, _, _, _, rfl, (by (repeat' apply And.intro) <;> first | trivial | exact Nat.le_of_ble_eq_true rfl | rfl), rfl, (by (repeat' apply And.intro) <;> first | trivial | exact Nat.le_of_ble_eq_true rfl | rfl), ⟨ccb (by simp_all), trivial⟩⟩
    · skip
      have h1 := r1
      have h1 := of_decide_eq_false h1
      try simp only [Int.toNat_natCast] at h1
      (iterate 3 refine rk rfl rfl rfl (gft r1) ?_); refine rq rfl rfl rfl rfl rfl ?_ (hp := r1); refine rq rfl rfl rfl rfl rfl ?_; (iterate 3 refine rk rfl rfl rfl rfl ?_); (iterate 2 refine rq rfl rfl rfl rfl rfl ?_)
      (iterate 3 refine rk rfl rfl rfl rfl ?_); (iterate 2 refine rq rfl rfl rfl rfl rfl ?_); (iterate 3 refine rk rfl rfl rfl rfl ?_); (iterate 2 refine rq rfl rfl rfl rfl rfl ?_); refine rg_nil ?_; show HW _ _ _ _ _
      refine hw_ret ?_; refine ⟨.inr rfl, ?_⟩
      exact ⟨_, _, _, _, rfl, (by (repeat' apply And.intro) <;> first | trivial | exact Nat.le_of_ble_eq_true rfl | rfl), rfl, (by (repeat' apply And.intro) <;> first | trivial | exact Nat.le_of_ble_eq_true rfl | rfl), ⟨ccb (by simp_all), trivial⟩⟩
theorem cLawSat (d : Rcp) (hf : d.f.length ≤ 16777216) (hm : d.m.length ≤ 16777216) (hp : d.p.length ≤ 16777216) (n : Int) (l : List Rw) : HPure Tryd.prog 7 [d.pc, pT n l] (prOf [pB true]) := by
  refine hpure_of (nt := 42) Trydok Tryd.func7 rfl rfl (Nat.le_of_ble_eq_true rfl) ?_; refine hw_seq ?_; refine hw_region (E := TrydE) Trydok ?_; refine rm 0 rfl rfl rfl rfl rfl rfl ?_; refine rm 1 rfl rfl rfl rfl rfl rfl ?_
  refine rq rfl rfl rfl rfl rfl ?_; refine rg_nil ?_; show HW _ _ _ _ _; refine hw_seq ?_; refine hw_region (E := TrydE) Trydok ?_; refine rq rfl rfl rfl rfl rfl ?_
  refine rc rfl rfl rfl rfl rfl rfl good23 (cOf4 d hf hm hp) (CoL.refl _) rfl rfl ?_; (iterate 11 refine rq rfl rfl rfl rfl rfl ?_); refine rg_nil ?_; show HW _ _ _ _ _; (iterate 2 refine hw_seq ?_)
  refine hw_region (E := TrydE) Trydok ?_; refine rc rfl rfl rfl rfl rfl rfl good11 (cAwake) (CoL.refl _) rfl rfl ?_; (iterate 6 refine rq rfl rfl rfl rfl rfl ?_); refine rsplit rfl rfl (fun r0 => ?_) (fun r0 => ?_)
  · skip
    have h0 := r0
    have h0 := not_t h0
    (iterate 3 refine rk rfl rfl rfl (gtf r0) ?_); refine rq rfl rfl rfl rfl rfl ?_ (hp := r0); refine rg_nil ?_; show HW _ _ _ _ _; refine hw_cond _ rfl (fun _ => ?_) (fun e => by cases e); refine hw_seq ?_
    refine hw_region (E := TrydE) Trydok ?_; refine rc rfl rfl rfl rfl rfl rfl good11 (cAwake) (CoL.refl _) rfl rfl ?_; refine rq rfl rfl rfl rfl rfl ?_; refine rg_nil ?_; show HW _ _ _ _ _; refine hw_ret ?_; refine ⟨.inr rfl, ?_⟩
    exact ⟨_, _, _, _, rfl, (by (repeat' apply And.intro) <;> first | trivial | exact Nat.le_of_ble_eq_true rfl | rfl), rfl, (by (repeat' apply And.intro) <;> first | trivial | exact Nat.le_of_ble_eq_true rfl | rfl), CoL.refl _⟩
  · skip
    have h0 := r0
    have h0 := not_f h0
    refine rq rfl rfl rfl rfl (gff r0) ?_; refine rc rfl rfl rfl rfl rfl rfl good12 (cFew14 n l) (CoL.refl _) rfl (gff r0) ?_; refine rq rfl rfl rfl rfl (gff r0) ?_; refine rq rfl rfl rfl rfl rfl ?_; refine rg_nil ?_
    show HW _ _ _ _ _; refine hw_cond _ rfl (fun r1 => ?_) (fun r1 => ?_)
    · skip
      have h1 := r1
      have h1 := bif_f r0 h1
      have h1 := not_t h1
      refine hw_seq ?_; refine hw_region (E := TrydE) Trydok ?_; refine rc rfl rfl rfl rfl rfl rfl good11 (cAwake) (CoL.refl _) rfl rfl ?_; refine rq rfl rfl rfl rfl rfl ?_; refine rg_nil ?_; show HW _ _ _ _ _; refine hw_ret ?_
      refine ⟨.inr rfl, ?_⟩
      exact ⟨_, _, _, _, rfl, (by (repeat' apply And.intro) <;> first | trivial | exact Nat.le_of_ble_eq_true rfl | rfl), rfl, (by (repeat' apply And.intro) <;> first | trivial | exact Nat.le_of_ble_eq_true rfl | rfl), CoL.refl _⟩
    · skip
      have h1 := r1
      have h1 := bif_f r0 h1
      have h1 := not_f h1
      have hok : d.f.length ≤ 4 ∧ d.m.length ≤ 4 ∧ d.p.length ≤ 3 := of_decide_eq_true (by simp_all)
      obtain ⟨hf4, hm4, hp3⟩ := hok
      have hfew : l.length ≤ 8 ∧ ∀ i, i < l.length → (l.getD i default).length ≤ 20 := of_decide_eq_true (by simp_all)
      have hbig : ∀ i, i < l.length → (l.getD i default).length ≤ 17592186044416 := fun i hi => by have := hfew.2 i hi; omega
      refine hw_skip ?_; show HW _ _ _ _ _; refine hw_seq ?_; refine hw_region (E := TrydE) Trydok ?_; (iterate 2 refine rq rfl rfl rfl rfl rfl ?_); refine rs rfl rfl rfl rfl rfl ?_; refine rg_nil ?_; show HW _ _ _ _ _
      refine hw_seq ?_; refine hw_draw (E := TrydE) Trydok Trydmixed [0, 1, 2, 3, 4, 5, 6, 7, 8, 9, 10] ?_; refine rq rfl rfl rfl rfl rfl ?_
      refine rc rfl rfl rfl rfl rfl rfl good14 (cLCopiedP (d.num 4) l hbig (by omega)) (CoL.refl _) rfl rfl ?_; (iterate 2 refine rq rfl rfl rfl rfl rfl ?_)
      refine rc rfl rfl rfl rfl rfl rfl good31 (cSat (d.num 4) l (d.fs 4) (d.ms 4)) (CoL.refl _) rfl rfl ?_; (iterate 3 refine rq rfl rfl rfl rfl rfl ?_)
      refine rc rfl rfl rfl rfl rfl rfl good32 (cRSat (d.num 4) l (d.fs 4) (d.ms 4)) (CoL.refl _) rfl rfl ?_; (iterate 2 refine rq rfl rfl rfl rfl rfl ?_); refine rg_nil ?_; refine ⟨by kernel_rfl, ?_⟩; show HW _ _ _ _ _
      refine hw_ret ?_; refine ⟨.inr rfl, ?_⟩
      exact ⟨_, _, _, _, rfl, (by (repeat' apply And.intro) <;> first | trivial | exact Nat.le_of_ble_eq_true rfl | rfl), rfl, (by (repeat' apply And.intro) <;> first | trivial | exact Nat.le_of_ble_eq_true rfl | rfl), ⟨ccb (by simp_all), trivial⟩⟩
theorem cLawApply (d : Rcp) (hf : d.f.length ≤ 16777216) (hm : d.m.length ≤ 16777216) (hp : d.p.length ≤ 16777216) (n : Int) (l : List Rw) (mu : Bool) (i a b : Int) : HPure Tryd.prog 8 [d.pc, pT n l, .agg [.raw (.bool mu), .raw (.int .i64 i), .raw (.int .i64 a), .raw (.int .i64 b)]] (prOf [pB true]) := by
  refine hpure_of (nt := 70) Trydok Tryd.func8 rfl rfl (Nat.le_of_ble_eq_true rfl) ?_; refine hw_seq ?_; refine hw_region (E := TrydE) Trydok ?_; refine rm 0 rfl rfl rfl rfl rfl rfl ?_; refine rm 1 rfl rfl rfl rfl rfl rfl ?_
  refine rm 2 rfl rfl rfl rfl rfl rfl ?_; refine rq rfl rfl rfl rfl rfl ?_; refine rg_nil ?_; show HW _ _ _ _ _; refine hw_seq ?_; refine hw_region (E := TrydE) Trydok ?_; refine rq rfl rfl rfl rfl rfl ?_
  refine rc rfl rfl rfl rfl rfl rfl good23 (cOf4 d hf hm hp) (CoL.refl _) rfl rfl ?_; (iterate 11 refine rq rfl rfl rfl rfl rfl ?_); refine rg_nil ?_; show HW _ _ _ _ _; (iterate 2 refine hw_seq ?_)
  refine hw_region (E := TrydE) Trydok ?_; refine rc rfl rfl rfl rfl rfl rfl good11 (cAwake) (CoL.refl _) rfl rfl ?_; (iterate 6 refine rq rfl rfl rfl rfl rfl ?_); refine rsplit rfl rfl (fun r0 => ?_) (fun r0 => ?_)
  · skip
    have h0 := r0
    have h0 := not_t h0
    (iterate 3 refine rk rfl rfl rfl (gtf r0) ?_); refine rq rfl rfl rfl rfl rfl ?_ (hp := r0); refine rg_nil ?_; show HW _ _ _ _ _; refine hw_cond _ rfl (fun _ => ?_) (fun e => by cases e); refine hw_seq ?_
    refine hw_region (E := TrydE) Trydok ?_; refine rc rfl rfl rfl rfl rfl rfl good11 (cAwake) (CoL.refl _) rfl rfl ?_; refine rq rfl rfl rfl rfl rfl ?_; refine rg_nil ?_; show HW _ _ _ _ _; refine hw_ret ?_; refine ⟨.inr rfl, ?_⟩
    exact ⟨_, _, _, _, rfl, (by (repeat' apply And.intro) <;> first | trivial | exact Nat.le_of_ble_eq_true rfl | rfl), rfl, (by (repeat' apply And.intro) <;> first | trivial | exact Nat.le_of_ble_eq_true rfl | rfl), CoL.refl _⟩
  · skip
    have h0 := r0
    have h0 := not_f h0
    refine rq rfl rfl rfl rfl (gff r0) ?_; refine rc rfl rfl rfl rfl rfl rfl good12 (cFew14 n l) (CoL.refl _) rfl (gff r0) ?_; refine rq rfl rfl rfl rfl (gff r0) ?_; refine rq rfl rfl rfl rfl rfl ?_; refine rg_nil ?_
    show HW _ _ _ _ _; refine hw_cond _ rfl (fun r1 => ?_) (fun r1 => ?_)
    · skip
      have h1 := r1
      have h1 := bif_f r0 h1
      have h1 := not_t h1
      refine hw_seq ?_; refine hw_region (E := TrydE) Trydok ?_; refine rc rfl rfl rfl rfl rfl rfl good11 (cAwake) (CoL.refl _) rfl rfl ?_; refine rq rfl rfl rfl rfl rfl ?_; refine rg_nil ?_; show HW _ _ _ _ _; refine hw_ret ?_
      refine ⟨.inr rfl, ?_⟩
      exact ⟨_, _, _, _, rfl, (by (repeat' apply And.intro) <;> first | trivial | exact Nat.le_of_ble_eq_true rfl | rfl), rfl, (by (repeat' apply And.intro) <;> first | trivial | exact Nat.le_of_ble_eq_true rfl | rfl), CoL.refl _⟩
    · skip
      have h1 := r1
      have h1 := bif_f r0 h1
      have h1 := not_f h1
      have hok : d.f.length ≤ 4 ∧ d.m.length ≤ 4 ∧ d.p.length ≤ 3 := of_decide_eq_true (by simp_all)
      obtain ⟨hf4, hm4, hp3⟩ := hok
      have hfew : l.length ≤ 8 ∧ ∀ i, i < l.length → (l.getD i default).length ≤ 20 := of_decide_eq_true (by simp_all)
      have hbig : ∀ i, i < l.length → (l.getD i default).length ≤ 17592186044416 := fun i hi => by have := hfew.2 i hi; omega
      refine hw_skip ?_; show HW _ _ _ _ _; refine hw_seq ?_; refine hw_region (E := TrydE) Trydok ?_; (iterate 2 refine rq rfl rfl rfl rfl rfl ?_); refine rs rfl rfl rfl rfl rfl ?_; refine rg_nil ?_; show HW _ _ _ _ _
      refine hw_seq ?_; refine hw_region (E := TrydE) Trydok ?_; refine rq rfl rfl rfl rfl rfl ?_; refine rc rfl rfl rfl rfl rfl rfl good14 (cLCopiedP (d.num 4) l hbig (by omega)) (CoL.refl _) rfl rfl ?_
      refine rm 3 rfl rfl rfl rfl rfl rfl ?_; refine rs rfl rfl rfl rfl rfl ?_; refine rg_nil ?_; show HW _ _ _ _ _; refine hw_seq ?_; refine hw_region (E := TrydE) Trydok ?_; (iterate 4 refine rq rfl rfl rfl rfl rfl ?_)
      refine rc rfl rfl rfl rfl rfl rfl good33 (cPApply (d.num 4) l (d.fs 4) (d.ms 4) mu i a b) (CoL.refl _) rfl rfl ?_; (iterate 3 refine rq rfl rfl rfl rfl rfl ?_); refine rm 4 rfl rfl rfl rfl rfl rfl ?_
      refine rs rfl rfl rfl rfl rfl ?_; refine rq rfl rfl rfl rfl rfl ?_; refine rg_nil ?_; show HW _ _ _ _ _; refine hw_seq ?_; refine hw_region (E := TrydE) Trydok ?_; (iterate 4 refine rq rfl rfl rfl rfl rfl ?_)
      refine rc rfl rfl rfl rfl rfl rfl good34 (cRApplyA (d.num 4) l (d.fs 4) (d.ms 4) mu i a b) (CoL.refl _) rfl rfl ?_; (iterate 3 refine rq rfl rfl rfl rfl rfl ?_); refine rm 5 rfl rfl rfl rfl rfl rfl ?_
      refine rs rfl rfl rfl rfl rfl ?_; refine rq rfl rfl rfl rfl rfl ?_; refine rg_nil ?_; show HW _ _ _ _ _; refine hw_seq ?_; refine hw_region (E := TrydE) Trydok ?_; (iterate 4 refine rq rfl rfl rfl rfl rfl ?_)
      refine rsplit rfl rfl (fun r2 => ?_) (fun r2 => ?_)
      · skip
        have h2 := r2
        have h2 := of_decide_eq_true h2
        try simp only [Int.toNat_natCast] at h2
        (iterate 2 refine rq rfl rfl rfl rfl (gtt r2) ?_)
        refine rc rfl rfl rfl rfl rfl rfl good22 (cSameX (applyE (d.num 4) l (d.fs 4) (d.ms 4) mu i a b).1 (applyE (d.num 4) l (d.fs 4) (d.ms 4) mu i a b).2.1) (CoL.refl _) rfl (gtt r2) ?_
        (iterate 2 refine rq rfl rfl rfl rfl rfl ?_); refine rsplit rfl rfl (fun r3 => ?_) (fun r3 => ?_)
        · skip
          have h3 := r3
          have h3 := bif_t r2 h3
          (iterate 2 refine rq rfl rfl rfl rfl (gtt r3) ?_); refine rc rfl rfl rfl rfl rfl rfl good22 (cSameX _ _) (CoL.refl _) rfl (gtt r3) ?_; (iterate 2 refine rq rfl rfl rfl rfl rfl ?_); refine rg_nil ?_; show HW _ _ _ _ _
          refine hw_ret ?_; refine ⟨.inr rfl, ?_⟩
          exact ⟨_, _, _, _, rfl, (by (repeat' apply And.intro) <;> first | trivial | exact Nat.le_of_ble_eq_true rfl | rfl), rfl, (by (repeat' apply And.intro) <;> first | trivial | exact Nat.le_of_ble_eq_true rfl | rfl), ⟨ccb (by simp_all), trivial⟩⟩
        · skip
          have h3 := r3
          have h3 := bif_t r2 h3
          (iterate 3 refine rk rfl rfl rfl (gft r3) ?_); refine rq rfl rfl rfl rfl rfl ?_ (hp := r3); refine rq rfl rfl rfl rfl rfl ?_; refine rg_nil ?_; show HW _ _ _ _ _; refine hw_ret ?_; refine ⟨.inr rfl, ?_⟩
          exact ⟨_, _, _, _, rfl, (by (repeat' apply And.intro) <;> first | trivial | exact Nat.le_of_ble_eq_true rfl | rfl), rfl, (by (repeat' apply And.intro) <;> first | trivial | exact Nat.le_of_ble_eq_true rfl | rfl), ⟨ccb (by simp_all), trivial⟩⟩
      · skip
        have h2 := r2
        have h2 := of_decide_eq_false h2
        try simp only [Int.toNat_natCast] at h2
        (iterate 3 refine rk rfl rfl rfl (gft r2) ?_); refine rq rfl rfl rfl rfl rfl ?_ (hp := r2); refine rq rfl rfl rfl rfl rfl ?_; (iterate 3 refine rk rfl rfl rfl rfl ?_); (iterate 2 refine rq rfl rfl rfl rfl rfl ?_)
        refine rg_nil ?_; show HW _ _ _ _ _; refine hw_ret ?_; refine ⟨.inr rfl, ?_⟩
        exact ⟨_, _, _, _, rfl, (by (repeat' apply And.intro) <;> first | trivial | exact Nat.le_of_ble_eq_true rfl | rfl), rfl, (by (repeat' apply And.intro) <;> first | trivial | exact Nat.le_of_ble_eq_true rfl | rfl), ⟨ccb (by simp_all), trivial⟩⟩
end Go.Hx
end
section
namespace Go.Hx
open Go.Proofs
abbrev SI := Bool × Int × Int × Int
abbrev SI.c (s : SI) : Nat → PV := fun j => [.raw (.bool s.1), .raw (.int .i64 s.2.1), .raw (.int .i64 s.2.2.1), .raw (.int .i64 s.2.2.2)].getD j .any
abbrev sil (l : List SI) : PV := psl 4 SI.c l
theorem run_ex {n : Int} {p m : List Fd} {l0 : List Rw} (h0 : tok n l0 = true) (hS : Small n.toNat p m l0) (hb : bErr n p m = 0) : ∃ L, (chaseE FU n l0 p m).2 = ((n, L), 0) := by
  obtain ⟨sts, lend, σ, e, _⟩ := chase_tr h0 hS hb h0 Ch.start
  exact ⟨lend, by rw [e]⟩
theorem cStepsX (n : Int) (l : List Rw) (p m : List Fd) (sts : List St) (L : List Rw) (h : chaseE FU n l p m = (sts, (n, L), 0)) : HPure Tryd.prog 24 [pT n l, pP (fdl p), pP (fdl m)] (prOf [pP (stl sts), pT n L, pI 0]) := by
  have := cSteps FU n l p m (fun h => mu_all h) (by decide)
  rw [h] at this
  exact this
theorem cSatX (n : Int) (l : List Rw) (p m : List Fd) (hT : tok n l = true) (hb : bErr n p m = 0) (hn : nextE l p m = none) : HPure Tryd.prog 31 [pT n l, pP (fdl p), pP (fdl m)] (prOf [pB true]) := by
  have h := cSat n l p m
  rw [hn, decide_eq_true ((if_pos hT).trans hb : ckE n l p m = 0)] at h
  exact h
theorem cSameF (n : Int) (l m : List Rw) (hne : ¬ l = m) : HPure Tryd.prog 22 [pT n l, pT n m] (prOf [pB false]) := by
  have h := cSameT n n l m
  rw [decide_eq_false fun e => hne e.2] at h
  exact h
theorem cSameE (n : Int) (l m : List Rw) (e : l = m) : HPure Tryd.prog 22 [pT n l, pT n m] (prOf [pB true]) := by
  subst e
  exact cSameX n l
theorem u8_v (b : BitVec 8) : (b.toNat : Int) = asI (b.setWidth 32) := by
  have h := b.isLt
  unfold asI
  rw [BitVec.toNat_setWidth, Nat.mod_eq_of_lt (by omega)]
def gdF (g0 g1 : BitVec 8) : Fd := ⟨g0.setWidth 32, g1.setWidth 32⟩
theorem co_gd0 {g0 g1 : BitVec 8} : CoP (.raw (.int .u32 (g0.toNat : Int))) ((gdF g0 g1).c 0) := CoP.of_eq (congrArg (fun z => PV.raw (.int .u32 z)) (u8_v g0))
theorem co_gd1 {g0 g1 : BitVec 8} : CoP (.raw (.int .u32 (g1.toNat : Int))) ((gdF g0 g1).c 1) := CoP.of_eq (congrArg (fun z => PV.raw (.int .u32 z)) (u8_v g1))
theorem co_gd2 {n : Int} {g0 g1 : BitVec 8} : CoP (.raw (.int .u32 (bitV .andNot .u32 (asI (fullI n)) (bitV .or .u32 (g0.toNat : Int) (g1.toNat : Int))))) ((cplF n (gdF g0 g1)).c 1) := by
  refine CoP.of_eq (congrArg (fun z => PV.raw (.int .u32 z)) ?_)
  rw [u8_v g0, u8_v g1, bOr, bNot]
  rfl
theorem impl_in {n : Int} {p m : List Fd} {x : Fd} (hb : bErr n p m = 0) (h : (implE n p m x).2 = 0) : inU n x = true := by
  apply Classical.byContradiction
  intro hu
  unfold implE at h
  rw [if_pos hb, if_neg hu] at h
  exact absurd h (by decide)
theorem cImpC (n : Int) (p m : List Fd) (x : Fd) (hn : n ≤ 5) (hb : bErr n p m = 0) (hu : inU n x = true) : HPure Tryd.prog 28 [pI n, pP (fdl p), pP (fdl m), (cplF n x).pc] (prOf [pB (implE n p m x).1, pI 0]) := by
  obtain ⟨b, e, e2⟩ := impl_cpl hn hb hu
  rw [e]
  exact cImpX n p m (cplF n x) b 0 e2
end Go.Hx
end
