/- A part of the proof: lemmas for the theorem of this claim, merged by a program of ours out of X33, Rb14. -/
import Derived.Test.YtididbpiikfaiaaDoorE31
import Derived.Test.YtididbpiikfaiaaDoorE32
import Derived.Test.YtididbpiikfaiaaDoorE38
set_option linter.all false
section
namespace Go.Hx
open Go.Proofs
set_option maxRecDepth 100000
theorem cLawOrder (d : Rcp) (hf : d.f.length ≤ 16777216) (hm : d.m.length ≤ 16777216) (hp : d.p.length ≤ 16777216) (l : List SI) : HPure Tryd.prog 9 [d.pc, pP (sil l)] (prOf [pB true]) := by
  refine hpure_of (nt := 87) Trydok Tryd.func9 rfl rfl (Nat.le_of_ble_eq_true rfl) ?_; refine hw_seq ?_
  refine hw_bt 1 rfl fun hn => ?_
  refine hw_region (E := TrydE) Trydok ?_; refine rm 0 rfl rfl rfl rfl rfl rfl ?_; refine rq rfl rfl rfl rfl rfl ?_; refine rg_nil ?_; show HW _ _ _ _ _; refine hw_seq ?_; refine hw_region (E := TrydE) Trydok ?_
  refine rq rfl rfl rfl rfl rfl ?_; refine rc rfl rfl rfl rfl rfl rfl good23 (cOf4 d hf hm hp) (CoL.refl _) rfl rfl ?_; (iterate 11 refine rq rfl rfl rfl rfl rfl ?_); refine rg_nil ?_; show HW _ _ _ _ _; (iterate 2 refine hw_seq ?_)
  refine hw_region (E := TrydE) Trydok ?_; refine rc rfl rfl rfl rfl rfl rfl good11 (cAwake) (CoL.refl _) rfl rfl ?_; (iterate 6 refine rq rfl rfl rfl rfl rfl ?_); refine rsplit rfl rfl (fun r0 => ?_) (fun r0 => ?_)
  · skip
    have h0 := r0
    have h0 := not_t h0
    (iterate 3 refine rk rfl rfl rfl (gtf r0) ?_); refine rq rfl rfl rfl rfl rfl ?_ (hp := r0); refine rg_nil ?_; show HW _ _ _ _ _; refine hw_cond _ rfl (fun _ => ?_) (fun e => by cases e); refine hw_seq ?_
    refine hw_region (E := TrydE) Trydok ?_; refine rc rfl rfl rfl rfl rfl rfl good11 (cAwake) (CoL.refl _) rfl rfl ?_; refine rq rfl rfl rfl rfl rfl ?_; refine rg_nil ?_; show HW _ _ _ _ _; refine hw_ret ?_; refine ⟨.inr rfl, ?_⟩
    exact ⟨_, _, _, _, rfl, (by (repeat' apply And.intro) <;> first | trivial | exact Nat.le_of_ble_eq_true rfl | rfl), rfl, (by (repeat' apply And.intro) <;> first | trivial | exact Nat.le_of_ble_eq_true rfl | rfl), CoL.refl _⟩
  · skip
    have h0 := r0
    have h0 := not_f h0
    (iterate 3 refine rq rfl rfl rfl rfl (gff r0) ?_); refine rq rfl rfl rfl rfl rfl ?_; refine rg_nil ?_; show HW _ _ _ _ _; refine hw_cond _ rfl (fun r1 => ?_) (fun r1 => ?_)
    · skip
      have h1 := r1
      have h1 := bif_f r0 h1
      have h1 := of_decide_eq_true h1
      try simp only [Int.toNat_natCast] at h1
      refine hw_seq ?_; refine hw_region (E := TrydE) Trydok ?_; refine rc rfl rfl rfl rfl rfl rfl good11 (cAwake) (CoL.refl _) rfl rfl ?_; refine rq rfl rfl rfl rfl rfl ?_; refine rg_nil ?_; show HW _ _ _ _ _; refine hw_ret ?_
      refine ⟨.inr rfl, ?_⟩
      exact ⟨_, _, _, _, rfl, (by (repeat' apply And.intro) <;> first | trivial | exact Nat.le_of_ble_eq_true rfl | rfl), rfl, (by (repeat' apply And.intro) <;> first | trivial | exact Nat.le_of_ble_eq_true rfl | rfl), CoL.refl _⟩
    · skip
      have h1 := r1
      have h1 := bif_f r0 h1
      have h1 := of_decide_eq_false h1
      try simp only [Int.toNat_natCast] at h1
      have hok : d.f.length ≤ 4 ∧ d.m.length ≤ 4 ∧ d.p.length ≤ 3 := of_decide_eq_true (by simp_all)
      obtain ⟨hf4, hm4, hp3⟩ := hok
      have hbe := rcp_err d (k := 4) (by decide) hf4 hm4
      have hT0 := rcp_tok d (k := 4) (by decide) hp3
      obtain ⟨hlen0, hbig0⟩ := tok_big hT0
      have hS0 := rcp_small d (k := 4) (by decide) hp3 (p := d.fs 4) (m := d.ms 4)
      obtain ⟨L, hL⟩ := run_ex hT0 hS0 hbe
      refine hw_skip ?_; show HW _ _ _ _ _; refine hw_seq ?_; refine hw_region (E := TrydE) Trydok ?_; (iterate 2 refine rq rfl rfl rfl rfl rfl ?_)
      refine rc rfl rfl rfl rfl rfl rfl good21 (cRStartX d 4 (by decide) hp3) (CoL.refl _) rfl rfl ?_; (iterate 3 refine rq rfl rfl rfl rfl rfl ?_); refine rm 1 rfl rfl rfl rfl rfl rfl ?_; refine rs rfl rfl rfl rfl rfl ?_
      refine rq rfl rfl rfl rfl rfl ?_; refine rg_nil ?_; show HW _ _ _ _ _; refine hw_seq ?_; refine hw_region (E := TrydE) Trydok ?_; refine rq rfl rfl rfl rfl rfl ?_
      refine rc rfl rfl rfl rfl rfl rfl good14 (cLCopiedP (d.num 4) (d.t0 4) hbig0 (by omega)) (CoL.refl _) rfl rfl ?_; (iterate 2 refine rq rfl rfl rfl rfl rfl ?_)
      refine rc rfl rfl rfl rfl rfl rfl good26 (cRunX (d.num 4) (d.t0 4) (d.fs 4) (d.ms 4) (d.num 4) L 0 hL) (CoL.refl _) rfl rfl ?_; (iterate 3 refine rq rfl rfl rfl rfl rfl ?_); refine rm 2 rfl rfl rfl rfl rfl rfl ?_
      refine rs rfl rfl rfl rfl rfl ?_; refine rq rfl rfl rfl rfl rfl ?_; refine rg_nil ?_; show HW _ _ _ _ _; (iterate 2 refine hw_seq ?_); refine hw_region (E := TrydE) Trydok ?_; (iterate 2 refine rq rfl rfl rfl rfl rfl ?_)
      refine rg_nil ?_; show HW _ _ _ _ _; refine hw_cond _ rfl (fun e => by cases e) (fun _ => ?_); refine hw_skip ?_; show HW _ _ _ _ _; (iterate 2 refine hw_seq ?_); refine hw_region (E := TrydE) Trydok ?_
      (iterate 3 refine rq rfl rfl rfl rfl rfl ?_); refine rg_nil ?_; show HW _ _ _ _ _; refine hw_block ?_
      refine hw_loopK (ι := Nat × List Rw) ⟨[(6, some _), (7, some _), (10, some _), (12, some _), (55, some _), (56, some _)], [(2, some _)]⟩ ⟨⟨⟨_, rfl, CoR.refl _⟩, ⟨_, rfl, CoR.refl _⟩, ⟨_, rfl, CoR.refl _⟩, ⟨_, rfl, CoR.refl _⟩, ⟨_, rfl, CoR.refl _⟩, ⟨_, rfl, CoR.refl _⟩, trivial⟩, ⟨⟨_, rfl, CoO.refl _⟩, trivial⟩⟩ (fun x => ⟨[(57, some (vI x.1))], [(1, some (.box [.p (.raw (.int .i64 (d.num 4))), .p (rl x.2)]))]⟩) (fun x => x.1 ≤ l.length ∧ tok (d.num 4) x.2 = true ∧ ∃ σ, Ch (d.num 4).toNat (d.fs 4) (d.ms 4) (d.t0 4) x.2 σ) (fun x => l.length - x.1) ((0, (d.t0 4))) (⟨Nat.zero_le _, hT0, _, Ch.start⟩) ⟨⟨⟨_, rfl, (by first | exact CoR.refl _ | exact coi (by omega) | exact cob (by simp_all))⟩, trivial⟩, ⟨⟨_, rfl, CoO.refl _⟩, trivial⟩⟩ ?_
      rintro x ⟨hX1, hX2, hX3⟩
      refine hw_seq ?_; refine hw_region (E := TrydE) Trydok ?_; refine rq rfl rfl rfl rfl rfl ?_; refine rg_nil ?_; show HW _ _ _ _ _; refine hw_seq ?_; refine hw_cond _ rfl (fun r2 => ?_) (fun r2 => ?_)
      · skip
        have h2 := r2
        have h2 := of_decide_eq_true h2
        try simp only [Int.toNat_natCast] at h2
        refine hw_skip ?_; show HW _ _ _ _ _; refine hw_seq ?_; refine hw_block ?_; refine hw_seq ?_; refine hw_region (E := TrydE) Trydok ?_; (iterate 2 refine rq rfl rfl rfl rfl rfl ?_); refine rm 3 rfl rfl rfl rfl rfl rfl ?_
        refine rs rfl rfl rfl rfl rfl ?_; refine rg_nil ?_; show HW _ _ _ _ _; refine hw_seq ?_; refine hw_region (E := TrydE) Trydok ?_; (iterate 4 refine rq rfl rfl rfl rfl rfl ?_)
        refine rc rfl rfl rfl rfl rfl rfl good33 (cPApply (d.num 4) x.2 (d.fs 4) (d.ms 4) (l.getD x.1 default).1 (l.getD x.1 default).2.1 (l.getD x.1 default).2.2.1 (l.getD x.1 default).2.2.2) (CoL.refl _) rfl rfl ?_
        (iterate 3 refine rq rfl rfl rfl rfl rfl ?_); refine rm 4 rfl rfl rfl rfl rfl rfl ?_; refine rs rfl rfl rfl rfl rfl ?_; refine rq rfl rfl rfl rfl rfl ?_; refine rg_nil ?_; show HW _ _ _ _ _; refine hw_seq ?_
        refine hw_region (E := TrydE) Trydok ?_; (iterate 2 refine rq rfl rfl rfl rfl rfl ?_); refine rg_nil ?_; show HW _ _ _ _ _; refine hw_cond _ rfl (fun r3 => ?_) (fun r3 => ?_)
        · skip
          have h3 := r3
          have h3 := of_decide_eq_true h3
          try simp only [Int.toNat_natCast] at h3
          have hnx := any_next hT0 hS0 hbe hX2 hX3 (by assumption)
          refine hw_region (E := TrydE) Trydok ?_; refine rq rfl rfl rfl rfl rfl ?_; refine rs rfl rfl rfl rfl rfl ?_; refine rg_nil ?_; show HW _ _ _ _ _; refine hw_region (E := TrydE) Trydok ?_
          (iterate 2 refine rq rfl rfl rfl rfl rfl ?_); refine rg_nil ?_
          first | (refine ⟨(x.1 + 1, (applyE (d.num 4) x.2 (d.fs 4) (d.ms 4) (l.getD x.1 default).1 (l.getD x.1 default).2.1 (l.getD x.1 default).2.2.1 (l.getD x.1 default).2.2.2).2.1), ?_, ?_, ?_⟩
                   · exact ⟨by show x.1 + 1 ≤ _; omega, hnx.2.1, hnx.2.2⟩
                   · first | omega | (dsimp only; omega)
                   · exact ⟨⟨⟨_, rfl, (by first | exact CoR.refl _ | exact coi (by omega) | exact cob (by simp_all))⟩, ⟨_, rfl, CoR.refl _⟩, ⟨_, rfl, CoR.refl _⟩, ⟨_, rfl, CoR.refl _⟩, ⟨_, rfl, CoR.refl _⟩, ⟨_, rfl, CoR.refl _⟩, ⟨_, rfl, CoR.refl _⟩, trivial⟩, ⟨⟨_, rfl, ⟨CoP.of_eq (by rw [hnx.1]), CoH.refl _, trivial⟩⟩, ⟨_, rfl, CoO.refl _⟩, trivial⟩⟩)
                | (refine ⟨(x.1 + 1, x.2), ?_, ?_, ?_⟩
                   · exact ⟨by show x.1 + 1 ≤ _; omega, hX2, hX3⟩
                   · first | omega | (dsimp only; omega)
                   · exact ⟨⟨⟨_, rfl, (by first | exact CoR.refl _ | exact coi (by omega) | exact cob (by simp_all))⟩, ⟨_, rfl, CoR.refl _⟩, ⟨_, rfl, CoR.refl _⟩, ⟨_, rfl, CoR.refl _⟩, ⟨_, rfl, CoR.refl _⟩, ⟨_, rfl, CoR.refl _⟩, ⟨_, rfl, CoR.refl _⟩, trivial⟩, ⟨⟨_, rfl, CoO.refl _⟩, ⟨_, rfl, CoO.refl _⟩, trivial⟩⟩)
        · skip
          have h3 := r3
          have h3 := of_decide_eq_false h3
          try simp only [Int.toNat_natCast] at h3
          refine hw_skip ?_; show HW _ _ _ _ _; refine hw_region (E := TrydE) Trydok ?_; (iterate 2 refine rq rfl rfl rfl rfl rfl ?_); refine rg_nil ?_
          first | (refine ⟨(x.1 + 1, (applyE (d.num 4) x.2 (d.fs 4) (d.ms 4) (l.getD x.1 default).1 (l.getD x.1 default).2.1 (l.getD x.1 default).2.2.1 (l.getD x.1 default).2.2.2).2.1), ?_, ?_, ?_⟩
                   · exact ⟨by show x.1 + 1 ≤ _; omega, hnx.2.1, hnx.2.2⟩
                   · first | omega | (dsimp only; omega)
                   · exact ⟨⟨⟨_, rfl, (by first | exact CoR.refl _ | exact coi (by omega) | exact cob (by simp_all))⟩, ⟨_, rfl, CoR.refl _⟩, ⟨_, rfl, CoR.refl _⟩, ⟨_, rfl, CoR.refl _⟩, ⟨_, rfl, CoR.refl _⟩, ⟨_, rfl, CoR.refl _⟩, ⟨_, rfl, CoR.refl _⟩, trivial⟩, ⟨⟨_, rfl, ⟨CoP.of_eq (by rw [hnx.1]), CoH.refl _, trivial⟩⟩, ⟨_, rfl, CoO.refl _⟩, trivial⟩⟩)
                | (refine ⟨(x.1 + 1, x.2), ?_, ?_, ?_⟩
                   · exact ⟨by show x.1 + 1 ≤ _; omega, hX2, hX3⟩
                   · first | omega | (dsimp only; omega)
                   · exact ⟨⟨⟨_, rfl, (by first | exact CoR.refl _ | exact coi (by omega) | exact cob (by simp_all))⟩, ⟨_, rfl, CoR.refl _⟩, ⟨_, rfl, CoR.refl _⟩, ⟨_, rfl, CoR.refl _⟩, ⟨_, rfl, CoR.refl _⟩, ⟨_, rfl, CoR.refl _⟩, ⟨_, rfl, CoR.refl _⟩, trivial⟩, ⟨⟨_, rfl, CoO.refl _⟩, ⟨_, rfl, CoO.refl _⟩, trivial⟩⟩)
      · skip
        have h2 := r2
        have h2 := of_decide_eq_false h2
        try simp only [Int.toNat_natCast] at h2
        have hae := any_end hT0 hS0 hbe hX2 hX3
        refine hw_exit ?_; show HW _ _ _ _ _; refine hw_seq ?_; refine hw_region (E := TrydE) Trydok ?_; (iterate 3 refine rq rfl rfl rfl rfl rfl ?_)
        refine rc rfl rfl rfl rfl rfl rfl good26 (cRunX (d.num 4) x.2 (d.fs 4) (d.ms 4) (d.num 4) L 0 (hae.1.trans hL)) (CoL.refl _) rfl rfl ?_; (iterate 3 refine rq rfl rfl rfl rfl rfl ?_); refine rm 5 rfl rfl rfl rfl rfl rfl ?_
        refine rs rfl rfl rfl rfl rfl ?_; refine rq rfl rfl rfl rfl rfl ?_; refine rg_nil ?_; show HW _ _ _ _ _; refine hw_seq ?_; refine hw_region (E := TrydE) Trydok ?_; (iterate 5 refine rq rfl rfl rfl rfl rfl ?_)
        refine rc rfl rfl rfl rfl rfl rfl good22 (cSameX (d.num 4) L) (CoL.refl _) rfl rfl ?_; (iterate 2 refine rq rfl rfl rfl rfl rfl ?_); refine rg_nil ?_; show HW _ _ _ _ _; refine hw_ret ?_; refine ⟨.inr rfl, ?_⟩
        exact ⟨_, _, _, _, rfl, (by (repeat' apply And.intro) <;> first | trivial | exact Nat.le_of_ble_eq_true rfl | rfl), rfl, (by (repeat' apply And.intro) <;> first | trivial | exact Nat.le_of_ble_eq_true rfl | rfl), CoL.refl _⟩
theorem cLawEnd (d : Rcp) (hf : d.f.length ≤ 16777216) (hm : d.m.length ≤ 16777216) (hp : d.p.length ≤ 16777216) : HPure Tryd.prog 10 [d.pc] (prOf [pB true]) := by
  refine hpure_of (nt := 82) Trydok Tryd.func10 rfl rfl (Nat.le_of_ble_eq_true rfl) ?_; refine hw_seq ?_; refine hw_region (E := TrydE) Trydok ?_; refine rm 0 rfl rfl rfl rfl rfl rfl ?_; refine rq rfl rfl rfl rfl rfl ?_
  refine rg_nil ?_; show HW _ _ _ _ _; refine hw_seq ?_; refine hw_region (E := TrydE) Trydok ?_; refine rq rfl rfl rfl rfl rfl ?_; refine rc rfl rfl rfl rfl rfl rfl good23 (cOf4 d hf hm hp) (CoL.refl _) rfl rfl ?_
  (iterate 11 refine rq rfl rfl rfl rfl rfl ?_); refine rg_nil ?_; show HW _ _ _ _ _; (iterate 2 refine hw_seq ?_); refine hw_region (E := TrydE) Trydok ?_; refine rc rfl rfl rfl rfl rfl rfl good11 (cAwake) (CoL.refl _) rfl rfl ?_
  (iterate 5 refine rq rfl rfl rfl rfl rfl ?_); refine rg_nil ?_; show HW _ _ _ _ _; refine hw_cond _ rfl (fun r0 => ?_) (fun r0 => ?_)
  · skip
    have h0 := r0
    have h0 := not_t h0
    refine hw_seq ?_; refine hw_region (E := TrydE) Trydok ?_; refine rc rfl rfl rfl rfl rfl rfl good11 (cAwake) (CoL.refl _) rfl rfl ?_; refine rq rfl rfl rfl rfl rfl ?_; refine rg_nil ?_; show HW _ _ _ _ _; refine hw_ret ?_
    refine ⟨.inr rfl, ?_⟩
    exact ⟨_, _, _, _, rfl, (by (repeat' apply And.intro) <;> first | trivial | exact Nat.le_of_ble_eq_true rfl | rfl), rfl, (by (repeat' apply And.intro) <;> first | trivial | exact Nat.le_of_ble_eq_true rfl | rfl), CoL.refl _⟩
  · skip
    have h0 := r0
    have h0 := not_f h0
    have hok : d.f.length ≤ 4 ∧ d.m.length ≤ 4 ∧ d.p.length ≤ 3 := of_decide_eq_true (by simp_all)
    obtain ⟨hf4, hm4, hp3⟩ := hok
    have hbe := rcp_err d (k := 4) (by decide) hf4 hm4
    have hT0 := rcp_tok d (k := 4) (by decide) hp3
    obtain ⟨hlen0, hbig0⟩ := tok_big hT0
    have hS0 := rcp_small d (k := 4) (by decide) hp3 (p := d.fs 4) (m := d.ms 4)
    obtain ⟨sts, lend, σ, hce, hCh, hTe, hne, hTr⟩ := chase_tr hT0 hS0 hbe hT0 Ch.start
    refine hw_skip ?_; show HW _ _ _ _ _; refine hw_seq ?_; refine hw_region (E := TrydE) Trydok ?_; (iterate 2 refine rq rfl rfl rfl rfl rfl ?_)
    refine rc rfl rfl rfl rfl rfl rfl good21 (cRStartX d 4 (by decide) hp3) (CoL.refl _) rfl rfl ?_; (iterate 3 refine rq rfl rfl rfl rfl rfl ?_); refine rm 1 rfl rfl rfl rfl rfl rfl ?_; refine rs rfl rfl rfl rfl rfl ?_
    refine rq rfl rfl rfl rfl rfl ?_; refine rg_nil ?_; show HW _ _ _ _ _; refine hw_seq ?_; refine hw_region (E := TrydE) Trydok ?_; refine rq rfl rfl rfl rfl rfl ?_
    refine rc rfl rfl rfl rfl rfl rfl good14 (cLCopiedP (d.num 4) (d.t0 4) hbig0 (by omega)) (CoL.refl _) rfl rfl ?_; (iterate 2 refine rq rfl rfl rfl rfl rfl ?_)
    refine rc rfl rfl rfl rfl rfl rfl good24 (cStepsX (d.num 4) (d.t0 4) (d.fs 4) (d.ms 4) sts lend hce) (CoL.refl _) rfl rfl ?_; (iterate 4 refine rq rfl rfl rfl rfl rfl ?_); refine rm 2 rfl rfl rfl rfl rfl rfl ?_
    refine rq rfl rfl rfl rfl rfl ?_; refine rs rfl rfl rfl rfl rfl ?_; refine rq rfl rfl rfl rfl rfl ?_; refine rg_nil ?_
    refine hw_bt 10 rfl fun hns => ?_
    show HW _ _ _ _ _; (iterate 2 refine hw_seq ?_); refine hw_region (E := TrydE) Trydok ?_; (iterate 6 refine rq rfl rfl rfl rfl rfl ?_)
    refine rc rfl rfl rfl rfl rfl rfl good31 (cSatX (d.num 4) lend (d.fs 4) (d.ms 4) hTe hbe hne) (CoL.refl _) rfl rfl ?_; (iterate 2 refine rq rfl rfl rfl rfl rfl ?_); refine rg_nil ?_; show HW _ _ _ _ _
    refine hw_cond _ rfl (fun e => Bool.noConfusion ((bif_fk rfl rfl).symm.trans e)) (fun _ => ?_); refine hw_skip ?_; show HW _ _ _ _ _; (iterate 2 refine hw_seq ?_); refine hw_region (E := TrydE) Trydok ?_
    (iterate 3 refine rq rfl rfl rfl rfl rfl ?_); refine rg_nil ?_; show HW _ _ _ _ _; refine hw_block ?_
    refine hw_loopK (ι := Nat × List Rw) ⟨[(4, some _), (5, some _), (8, some _), (11, some _), (56, some _), (57, some _)], [(2, some _)]⟩ ⟨⟨⟨_, rfl, CoR.refl _⟩, ⟨_, rfl, CoR.refl _⟩, ⟨_, rfl, CoR.refl _⟩, ⟨_, rfl, CoR.refl _⟩, ⟨_, rfl, CoR.refl _⟩, ⟨_, rfl, CoR.refl _⟩, trivial⟩, ⟨⟨_, rfl, CoO.refl _⟩, trivial⟩⟩ (fun x => ⟨[(58, some (vI x.1))], [(1, some (.box [.p (.raw (.int .i64 (d.num 4))), .p (rl x.2)]))]⟩) (fun x => x.1 ≤ sts.length ∧ TrZ (d.num 4) (d.fs 4) (d.ms 4) lend x.2 (sts.drop x.1)) (fun x => sts.length - x.1) ((0, (d.t0 4))) (⟨Nat.zero_le _, hTr⟩) ⟨⟨⟨_, rfl, (by first | exact CoR.refl _ | exact coi (by omega) | exact cob (by simp_all))⟩, trivial⟩, ⟨⟨_, rfl, CoO.refl _⟩, trivial⟩⟩ ?_
    rintro x ⟨hX1, hX2⟩
    refine hw_seq ?_; refine hw_region (E := TrydE) Trydok ?_; refine rq rfl rfl rfl rfl rfl ?_; refine rg_nil ?_; show HW _ _ _ _ _; refine hw_seq ?_; refine hw_cond _ rfl (fun r1 => ?_) (fun r1 => ?_)
    · skip
      have h1 := r1
      have h1 := of_decide_eq_true h1
      try simp only [Int.toNat_natCast] at h1
      obtain ⟨hx1, hx2, hx3, hx4, hx5⟩ := tr_next (by omega) hX2
      refine hw_skip ?_; show HW _ _ _ _ _; refine hw_seq ?_; refine hw_block ?_; refine hw_seq ?_; refine hw_region (E := TrydE) Trydok ?_; (iterate 2 refine rq rfl rfl rfl rfl rfl ?_); refine rm 3 rfl rfl rfl rfl rfl rfl ?_
      refine rs rfl rfl rfl rfl rfl ?_; refine rg_nil ?_; show HW _ _ _ _ _; refine hw_seq ?_; refine hw_region (E := TrydE) Trydok ?_; (iterate 4 refine rq rfl rfl rfl rfl rfl ?_)
      refine rc rfl rfl rfl rfl rfl rfl good33 (cPApplySt (d.num 4) x.2 (d.fs 4) (d.ms 4) (sts.getD x.1 default) hx1 hbe hx2 hx3) (CoL.refl _) rfl rfl ?_; (iterate 3 refine rq rfl rfl rfl rfl rfl ?_)
      refine rm 4 rfl rfl rfl rfl rfl rfl ?_; refine rs rfl rfl rfl rfl rfl ?_; refine rq rfl rfl rfl rfl rfl ?_; refine rg_nil ?_; show HW _ _ _ _ _; (iterate 2 refine hw_seq ?_); refine hw_region (E := TrydE) Trydok ?_
      (iterate 5 refine rq rfl rfl rfl rfl rfl ?_); refine rc rfl rfl rfl rfl rfl rfl good22 (cSameF (d.num 4) (appE (d.num 4) x.2 (d.fs 4) (d.ms 4) (sts.getD x.1 default)).2.1 x.2 hx4) (CoL.refl _) rfl rfl ?_
      refine rq rfl rfl rfl rfl rfl ?_; refine rg_nil ?_; show HW _ _ _ _ _; refine hw_cond _ rfl (fun e => Bool.noConfusion ((bif_fk rfl rfl).symm.trans e)) (fun _ => ?_); refine hw_skip ?_; show HW _ _ _ _ _
      refine hw_region (E := TrydE) Trydok ?_; refine rq rfl rfl rfl rfl rfl ?_; refine rs rfl rfl rfl rfl rfl ?_; refine rg_nil ?_; show HW _ _ _ _ _; refine hw_region (E := TrydE) Trydok ?_
      (iterate 2 refine rq rfl rfl rfl rfl rfl ?_); refine rg_nil ?_; refine ⟨(x.1 + 1, (appE (d.num 4) x.2 (d.fs 4) (d.ms 4) (sts.getD x.1 default)).2.1), ?_, ?_, ?_⟩
      · exact ⟨by show x.1 + 1 ≤ _; omega, hx5⟩
      · first | omega | (dsimp only; omega)
      · exact ⟨⟨⟨_, rfl, (by first | exact CoR.refl _ | exact coi (by omega) | exact cob (by simp_all))⟩, ⟨_, rfl, CoR.refl _⟩, ⟨_, rfl, CoR.refl _⟩, ⟨_, rfl, CoR.refl _⟩, ⟨_, rfl, CoR.refl _⟩, ⟨_, rfl, CoR.refl _⟩, ⟨_, rfl, CoR.refl _⟩, trivial⟩, ⟨⟨_, rfl, CoO.refl _⟩, ⟨_, rfl, CoO.refl _⟩, trivial⟩⟩
    · skip
      have h1 := r1
      have h1 := of_decide_eq_false h1
      try simp only [Int.toNat_natCast] at h1
      have hxe : x.2 = lend := tr_end (by omega) hX2
      refine hw_exit ?_; show HW _ _ _ _ _; refine hw_seq ?_; refine hw_region (E := TrydE) Trydok ?_; (iterate 2 refine rq rfl rfl rfl rfl rfl ?_)
      refine rc rfl rfl rfl rfl rfl rfl good22 (cSameE (d.num 4) x.2 lend hxe) (CoL.refl _) rfl rfl ?_; refine rq rfl rfl rfl rfl rfl ?_; refine rg_nil ?_; show HW _ _ _ _ _; refine hw_ret ?_; refine ⟨.inr rfl, ?_⟩
      exact ⟨_, _, _, _, rfl, (by (repeat' apply And.intro) <;> first | trivial | exact Nat.le_of_ble_eq_true rfl | rfl), rfl, (by (repeat' apply And.intro) <;> first | trivial | exact Nat.le_of_ble_eq_true rfl | rfl), CoL.refl _⟩
theorem cLawImplies (d : Rcp) (hf : d.f.length ≤ 16777216) (hm : d.m.length ≤ 16777216) (hp : d.p.length ≤ 16777216) (g0 g1 : BitVec 8) : HPure Tryd.prog 6 [d.pc, .agg [.raw (.int .u8 (g0.toNat : Int)), .raw (.int .u8 (g1.toNat : Int))]] (prOf [pB true]) := by
  refine hpure_of (nt := 100) Trydok Tryd.func6 rfl rfl (Nat.le_of_ble_eq_true rfl) ?_; refine hw_seq ?_; refine hw_region (E := TrydE) Trydok ?_; refine rm 0 rfl rfl rfl rfl rfl rfl ?_; refine rm 1 rfl rfl rfl rfl rfl rfl ?_
  refine rq rfl rfl rfl rfl rfl ?_; refine rg_nil ?_; show HW _ _ _ _ _; refine hw_seq ?_; refine hw_region (E := TrydE) Trydok ?_; refine rq rfl rfl rfl rfl rfl ?_
  refine rc rfl rfl rfl rfl rfl rfl good23 (cOf5 d hf hm hp) (CoL.refl _) rfl rfl ?_; (iterate 11 refine rq rfl rfl rfl rfl rfl ?_); refine rg_nil ?_; show HW _ _ _ _ _; (iterate 2 refine hw_seq ?_)
  refine hw_region (E := TrydE) Trydok ?_; refine rc rfl rfl rfl rfl rfl rfl good11 (cAwake) (CoL.refl _) rfl rfl ?_; (iterate 5 refine rq rfl rfl rfl rfl rfl ?_); refine rg_nil ?_; show HW _ _ _ _ _
  refine hw_cond _ rfl (fun r0 => ?_) (fun r0 => ?_)
  · skip
    have h0 := r0
    have h0 := not_t h0
    refine hw_seq ?_; refine hw_region (E := TrydE) Trydok ?_; refine rc rfl rfl rfl rfl rfl rfl good11 (cAwake) (CoL.refl _) rfl rfl ?_; refine rq rfl rfl rfl rfl rfl ?_; refine rg_nil ?_; show HW _ _ _ _ _; refine hw_ret ?_
    refine ⟨.inr rfl, ?_⟩
    exact ⟨_, _, _, _, rfl, (by (repeat' apply And.intro) <;> first | trivial | exact Nat.le_of_ble_eq_true rfl | rfl), rfl, (by (repeat' apply And.intro) <;> first | trivial | exact Nat.le_of_ble_eq_true rfl | rfl), CoL.refl _⟩
  · skip
    have h0 := r0
    have h0 := not_f h0
    have hok : d.f.length ≤ 4 ∧ d.m.length ≤ 4 ∧ d.p.length ≤ 3 := of_decide_eq_true (by simp_all)
    obtain ⟨hf4, hm4, hp3⟩ := hok
    have hbe := rcp_err d (k := 5) (by decide) hf4 hm4
    have hn5 := (num_ok d (k := 5) (by decide)).2
    refine hw_skip ?_; show HW _ _ _ _ _; refine hw_seq ?_; refine hw_region (E := TrydE) Trydok ?_; (iterate 7 refine rq rfl rfl rfl rfl rfl ?_); refine rm 2 rfl rfl rfl rfl rfl rfl ?_; refine rs rfl rfl rfl rfl rfl ?_
    refine rg_nil ?_; show HW _ _ _ _ _; refine hw_seq ?_; refine hw_region (E := TrydE) Trydok ?_; (iterate 4 refine rq rfl rfl rfl rfl rfl ?_)
    refine rc rfl rfl rfl rfl rfl rfl good28 (cImplT (d.num 5) (d.fs 5) (d.ms 5) (gdF g0 g1)) (⟨CoC.refl _, CoC.refl _, CoC.refl _, CoC.agg ⟨co_gd0 (g1 := g1), co_gd1 (g0 := g0), trivial⟩, trivial⟩) rfl rfl ?_
    (iterate 5 refine rq rfl rfl rfl rfl rfl ?_); refine rg_nil ?_; show HW _ _ _ _ _; refine hw_seq ?_; refine hw_region (E := TrydE) Trydok ?_; (iterate 4 refine rq rfl rfl rfl rfl rfl ?_)
    refine rc rfl rfl rfl rfl rfl rfl good29 (cRImplT (d.num 5) (d.fs 5) (d.ms 5) (gdF g0 g1)) (⟨CoC.refl _, CoC.refl _, CoC.refl _, CoC.agg ⟨co_gd0 (g1 := g1), co_gd1 (g0 := g0), trivial⟩, trivial⟩) rfl rfl ?_
    (iterate 5 refine rq rfl rfl rfl rfl rfl ?_); refine rg_nil ?_; show HW _ _ _ _ _; (iterate 2 refine hw_seq ?_); refine hw_region (E := TrydE) Trydok ?_; (iterate 4 refine rq rfl rfl rfl rfl rfl ?_)
    refine rsplit rfl rfl (fun r1 => ?_) (fun r1 => ?_)
    · skip
      have h1 := r1
      (iterate 3 refine rk rfl rfl rfl (gtf r1) ?_); refine rq rfl rfl rfl rfl rfl ?_ (hp := r1); refine rq rfl rfl rfl rfl rfl ?_; (iterate 2 refine rk rfl rfl rfl rfl ?_); refine rq rfl rfl rfl rfl rfl ?_; refine rg_nil ?_
      show HW _ _ _ _ _; refine hw_cond _ rfl (fun _ => ?_) (fun e => by cases e); refine hw_seq ?_; refine hw_region (E := TrydE) Trydok ?_; (iterate 4 refine rq rfl rfl rfl rfl rfl ?_)
      refine rsplit rfl rfl (fun r2 => ?_) (fun r2 => ?_)
      · skip
        have h2 := r2
        (iterate 3 refine rq rfl rfl rfl rfl (gtt r2) ?_); (iterate 2 refine rq rfl rfl rfl rfl rfl ?_); refine rg_nil ?_; show HW _ _ _ _ _; refine hw_ret ?_; refine ⟨.inr rfl, ?_⟩
        exact ⟨_, _, _, _, rfl, (by (repeat' apply And.intro) <;> first | trivial | exact Nat.le_of_ble_eq_true rfl | rfl), rfl, (by (repeat' apply And.intro) <;> first | trivial | exact Nat.le_of_ble_eq_true rfl | rfl), ⟨ccb (by simp_all), trivial⟩⟩
      · skip
        have h2 := r2
        (iterate 3 refine rk rfl rfl rfl (gft r2) ?_); refine rq rfl rfl rfl rfl rfl ?_ (hp := r2); refine rq rfl rfl rfl rfl rfl ?_; refine rg_nil ?_; show HW _ _ _ _ _; refine hw_ret ?_; refine ⟨.inr rfl, ?_⟩
        exact ⟨_, _, _, _, rfl, (by (repeat' apply And.intro) <;> first | trivial | exact Nat.le_of_ble_eq_true rfl | rfl), rfl, (by (repeat' apply And.intro) <;> first | trivial | exact Nat.le_of_ble_eq_true rfl | rfl), ⟨ccb (by simp_all), trivial⟩⟩
    · skip
      have h1 := r1
      (iterate 3 refine rq rfl rfl rfl rfl (gff r1) ?_); (iterate 2 refine rq rfl rfl rfl rfl rfl ?_); refine rsplit rfl rfl (fun r3 => ?_) (fun r3 => ?_)
      · skip
        have h3 := r3
        have h3 := bif_f r1 h3
        have h3 := of_decide_eq_false (not_t h3)
        try simp only [Int.toNat_natCast] at h3
        (iterate 2 refine rk rfl rfl rfl (gtf r3) ?_); refine rq rfl rfl rfl rfl rfl ?_ (hp := r3); refine rg_nil ?_; show HW _ _ _ _ _; refine hw_cond _ rfl (fun _ => ?_) (fun e => by cases e); refine hw_seq ?_
        refine hw_region (E := TrydE) Trydok ?_; (iterate 4 refine rq rfl rfl rfl rfl rfl ?_); refine rsplit rfl rfl (fun r4 => ?_) (fun r4 => ?_)
        · skip
          have h4 := r4
          (iterate 3 refine rq rfl rfl rfl rfl (gtt r4) ?_); (iterate 2 refine rq rfl rfl rfl rfl rfl ?_); refine rg_nil ?_; show HW _ _ _ _ _; refine hw_ret ?_; refine ⟨.inr rfl, ?_⟩
          exact ⟨_, _, _, _, rfl, (by (repeat' apply And.intro) <;> first | trivial | exact Nat.le_of_ble_eq_true rfl | rfl), rfl, (by (repeat' apply And.intro) <;> first | trivial | exact Nat.le_of_ble_eq_true rfl | rfl), ⟨ccb (by simp_all), trivial⟩⟩
        · skip
          have h4 := r4
          (iterate 3 refine rk rfl rfl rfl (gft r4) ?_); refine rq rfl rfl rfl rfl rfl ?_ (hp := r4); refine rq rfl rfl rfl rfl rfl ?_; refine rg_nil ?_; show HW _ _ _ _ _; refine hw_ret ?_; refine ⟨.inr rfl, ?_⟩
          exact ⟨_, _, _, _, rfl, (by (repeat' apply And.intro) <;> first | trivial | exact Nat.le_of_ble_eq_true rfl | rfl), rfl, (by (repeat' apply And.intro) <;> first | trivial | exact Nat.le_of_ble_eq_true rfl | rfl), ⟨ccb (by simp_all), trivial⟩⟩
      · skip
        have h3 := r3
        have h3 := bif_f r1 h3
        have h3 := of_decide_eq_true (not_f h3)
        try simp only [Int.toNat_natCast] at h3
        (iterate 2 refine rq rfl rfl rfl rfl (gff r3) ?_); refine rq rfl rfl rfl rfl rfl ?_; refine rg_nil ?_; show HW _ _ _ _ _; refine hw_cond _ rfl (fun r5 => ?_) (fun r5 => ?_)
        · skip
          have h5 := r5
          have h5 := bif_f r3 h5
          have h5 := of_decide_eq_false (not_t h5)
          try simp only [Int.toNat_natCast] at h5
          refine hw_seq ?_; refine hw_region (E := TrydE) Trydok ?_; (iterate 4 refine rq rfl rfl rfl rfl rfl ?_); refine rsplit rfl rfl (fun r6 => ?_) (fun r6 => ?_)
          · skip
            have h6 := r6
            (iterate 3 refine rq rfl rfl rfl rfl (gtt r6) ?_); (iterate 2 refine rq rfl rfl rfl rfl rfl ?_); refine rg_nil ?_; show HW _ _ _ _ _; refine hw_ret ?_; refine ⟨.inr rfl, ?_⟩
            exact ⟨_, _, _, _, rfl, (by (repeat' apply And.intro) <;> first | trivial | exact Nat.le_of_ble_eq_true rfl | rfl), rfl, (by (repeat' apply And.intro) <;> first | trivial | exact Nat.le_of_ble_eq_true rfl | rfl), ⟨ccb (by simp_all), trivial⟩⟩
          · skip
            have h6 := r6
            (iterate 3 refine rk rfl rfl rfl (gft r6) ?_); refine rq rfl rfl rfl rfl rfl ?_ (hp := r6); refine rq rfl rfl rfl rfl rfl ?_; refine rg_nil ?_; show HW _ _ _ _ _; refine hw_ret ?_; refine ⟨.inr rfl, ?_⟩
            exact ⟨_, _, _, _, rfl, (by (repeat' apply And.intro) <;> first | trivial | exact Nat.le_of_ble_eq_true rfl | rfl), rfl, (by (repeat' apply And.intro) <;> first | trivial | exact Nat.le_of_ble_eq_true rfl | rfl), ⟨ccb (by simp_all), trivial⟩⟩
        · skip
          have h5 := r5
          have h5 := bif_f r3 h5
          have h5 := of_decide_eq_true (not_f h5)
          try simp only [Int.toNat_natCast] at h5
          refine hw_skip ?_; show HW _ _ _ _ _; refine hw_seq ?_
          have he0 : (implE (d.num 5) (d.fs 5) (d.ms 5) (gdF g0 g1)).2 = 0 := by simp_all
          have hu := impl_in hbe he0
          refine hw_draw (E := TrydE) Trydok Trydmixed [0, 1, 2, 3, 4, 5, 6, 7, 8, 9, 10, 11, 12, 13, 14, 15, 16, 17, 18, 19] ?_; (iterate 6 refine rq rfl rfl rfl rfl rfl ?_)
          refine rc rfl rfl rfl rfl rfl rfl good30 (cRFull (d.num 5)) (CoL.refl _) rfl rfl ?_; (iterate 7 refine rq rfl rfl rfl rfl rfl ?_)
          refine rc rfl rfl rfl rfl rfl rfl good28 (cImpC (d.num 5) (d.fs 5) (d.ms 5) (gdF g0 g1) hn5 hbe hu) (⟨CoC.refl _, CoC.refl _, CoC.refl _, CoC.agg ⟨co_gd0 (g1 := g1), co_gd2, trivial⟩, trivial⟩) rfl rfl ?_
          (iterate 5 refine rq rfl rfl rfl rfl rfl ?_); refine rg_nil ?_; refine ⟨by kernel_rfl, ?_⟩; show HW _ _ _ _ _; refine hw_seq ?_; refine hw_region (E := TrydE) Trydok ?_; (iterate 3 refine rq rfl rfl rfl rfl rfl ?_)
          refine rsplit rfl rfl (fun r7 => ?_) (fun r7 => ?_)
          · skip
            have h7 := r7
            have h7 := of_decide_eq_true h7
            try simp only [Int.toNat_natCast] at h7
            (iterate 3 refine rq rfl rfl rfl rfl (gtt r7) ?_); (iterate 2 refine rq rfl rfl rfl rfl rfl ?_); refine rg_nil ?_; show HW _ _ _ _ _; refine hw_ret ?_; refine ⟨.inr rfl, ?_⟩
            exact ⟨_, _, _, _, rfl, (by (repeat' apply And.intro) <;> first | trivial | exact Nat.le_of_ble_eq_true rfl | rfl), rfl, (by (repeat' apply And.intro) <;> first | trivial | exact Nat.le_of_ble_eq_true rfl | rfl), ⟨ccb (by simp_all), trivial⟩⟩
          · skip
            have h7 := r7
            have h7 := of_decide_eq_false h7
            try simp only [Int.toNat_natCast] at h7
            (iterate 3 refine rk rfl rfl rfl (gft r7) ?_); refine rq rfl rfl rfl rfl rfl ?_ (hp := r7); refine rq rfl rfl rfl rfl rfl ?_; refine rg_nil ?_; show HW _ _ _ _ _; refine hw_ret ?_; refine ⟨.inr rfl, ?_⟩
            exact ⟨_, _, _, _, rfl, (by (repeat' apply And.intro) <;> first | trivial | exact Nat.le_of_ble_eq_true rfl | rfl), rfl, (by (repeat' apply And.intro) <;> first | trivial | exact Nat.le_of_ble_eq_true rfl | rfl), ⟨ccb (by simp_all), trivial⟩⟩
end Go.Hx
end
section
namespace Go.Hx
open Go.Proofs Go.Proofs.YtididbpiikfaiaaDoor
open Go.RowKit Go.ChangeShapes Go.WideShapes Go.ChangeAt
theorem rd5 : Rd Tryd.prog 5 1 u8C := (rd_u8 Tryd.underlying5).co (fun u => u.toBitVec) fun a j hj => CoP.refl _
theorem rd4 : Rd Tryd.prog 4 1 boolC := rd_bool Tryd.underlying4
theorem rb57 : RdB Tryd.prog 57 2 Dp.c fun _ _ => True := by
  intro H enc w sp held fuel cs x h
  obtain ⟨hl, n, hf⟩ := rdB_elem Tryd.underlying57 h
  obtain ⟨y0, e0⟩ := hf 0 (by omega)
  obtain ⟨y1, e1⟩ := hf 1 (by omega)
  have hc : Tryd.prog.cellsOf 5 = 1 := by kernel_rfl
  obtain ⟨a0, _, h0⟩ := rdB_field (off := 0) (fun _ _ _ _ _ => trivial) rd5.toB (by simpa using e0)
  obtain ⟨a1, _, h1⟩ := rdB_field (off := 1) (fun _ _ _ _ _ => trivial) rd5.toB (by simpa [hc] using e1)
  refine ⟨hl.trans (by kernel_rfl), (⟨a0, a1⟩ : Dp), trivial, fun j hj => ?_⟩
  match j, hj with
  | 0, _ => exact h0 0 (by omega)
  | 1, _ => exact h1 0 (by omega)
theorem rb41 : RdB Tryd.prog 41 1 (pslC 2 Dp.c) fun b l => l.length ≤ b :=
  (rdB_slice (B := fun _ _ => True) (fun _ _ _ _ _ => trivial) Tryd.underlying41 (by kernel_rfl) (by omega) rb57).co id (fun b a h => h.1) fun a j hj => CoP.refl _
theorem rb42 : RdB Tryd.prog 42 1 (pslC 1 u8C) fun b l => l.length ≤ b :=
  (rdB_slice (B := fun _ _ => True) (fun _ _ _ _ _ => trivial) Tryd.underlying42 (by kernel_rfl) (by omega) rd5.toB).co id (fun b a h => h.1) fun a j hj => CoP.refl _
abbrev Rcp.c (d : Rcp) : Nat → PV := fun j => [.raw (.int .u8 (d.n.toNat : Int)), dpl d.f, dpl d.m, psl 1 u8C d.p].getD j .any
theorem rb44 : RdB Tryd.prog 44 4 Rcp.c fun b d => d.f.length ≤ b ∧ d.m.length ≤ b ∧ d.p.length ≤ b := by
  intro H enc w sp held fuel cs x h
  obtain ⟨hl, n, hf⟩ := rdB_fields Tryd.underlying44 h
  obtain ⟨y0, e0⟩ := hf 0 _ rfl
  obtain ⟨y1, e1⟩ := hf 1 _ rfl
  obtain ⟨y2, e2⟩ := hf 2 _ rfl
  obtain ⟨y3, e3⟩ := hf 3 _ rfl
  obtain ⟨a0, _, h0⟩ := rdB_field (fun _ _ _ _ _ => trivial) rd5.toB e0
  obtain ⟨a1, b1, h1⟩ := rdB_field (B := fun b (l : List Dp) => l.length ≤ b) (fun _ _ _ h k => Nat.le_trans k h) rb41 e1
  obtain ⟨a2, b2, h2⟩ := rdB_field (B := fun b (l : List Dp) => l.length ≤ b) (fun _ _ _ h k => Nat.le_trans k h) rb41 e2
  obtain ⟨a3, b3, h3⟩ := rdB_field (B := fun b (l : List (BitVec 8)) => l.length ≤ b) (fun _ _ _ h k => Nat.le_trans k h) rb42 e3
  refine ⟨hl.trans (by kernel_rfl), (⟨a0, a1, a2, a3⟩ : Rcp), ⟨b1, b2, b3⟩, fun j hj => ?_⟩
  match j, hj with
  | 0, _ => exact h0 0 (by omega)
  | 1, _ => exact h1 0 (by omega)
  | 2, _ => exact h2 0 (by omega)
  | 3, _ => exact h3 0 (by omega)
theorem rd55 : RdB Tryd.prog 55 4 SI.c fun _ _ => True := by
  intro H enc w sp held fuel cs x h
  obtain ⟨hl, n, hf⟩ := rdB_fields Tryd.underlying55 h
  obtain ⟨y0, e0⟩ := hf 0 _ rfl
  obtain ⟨y1, e1⟩ := hf 1 _ rfl
  obtain ⟨y2, e2⟩ := hf 2 _ rfl
  obtain ⟨y3, e3⟩ := hf 3 _ rfl
  obtain ⟨a0, _, h0⟩ := rdB_field (fun _ _ _ _ _ => trivial) rd4.toB e0
  obtain ⟨a1, _, h1⟩ := rdB_field (fun _ _ _ _ _ => trivial) rd3.toB e1
  obtain ⟨a2, _, h2⟩ := rdB_field (fun _ _ _ _ _ => trivial) rd3.toB e2
  obtain ⟨a3, _, h3⟩ := rdB_field (fun _ _ _ _ _ => trivial) rd3.toB e3
  refine ⟨hl.trans (by kernel_rfl), ((a0, a1, a2, a3) : SI), trivial, fun j hj => ?_⟩
  match j, hj with
  | 0, _ => exact h0 0 (by omega)
  | 1, _ => exact h1 0 (by omega)
  | 2, _ => exact h2 0 (by omega)
  | 3, _ => exact h3 0 (by omega)
theorem rd49 : RdB Tryd.prog 49 1 (pslC 4 SI.c) fun b l => l.length ≤ b :=
  (rdB_slice (B := fun _ _ => True) (fun _ _ _ _ _ => trivial) Tryd.underlying49 (by kernel_rfl) (by omega) rd55).co id (fun b a h => h.1) fun a j hj => CoP.refl _
theorem par44 : Tryd.prog.readableRec 44 = true ∧ 44 < Tryd.prog.types.size := ⟨by kernel_rfl, of_decide_eq_true (by kernel_rfl)⟩
theorem par55 : Tryd.prog.readableRec 55 = true ∧ 55 < Tryd.prog.types.size := ⟨by kernel_rfl, of_decide_eq_true (by kernel_rfl)⟩
theorem par49 : Tryd.prog.readableRec 49 = true ∧ 49 < Tryd.prog.types.size := ⟨by kernel_rfl, of_decide_eq_true (by kernel_rfl)⟩
theorem par57 : Tryd.prog.readableRec 57 = true ∧ 57 < Tryd.prog.types.size := ⟨by kernel_rfl, of_decide_eq_true (by kernel_rfl)⟩
end Go.Hx
end
