/- A part of the proof: lemmas for the theorem of this claim, merged by a program of ours out of Vz1, Cz2, Vz2. -/
import Derived.Test.YtgeliioenkmfhaaGreatDoorZ34
set_option linter.all false
section
namespace Go.Hx
open Go.Proofs
set_option maxRecDepth 100000
theorem good23 : goodFn Tryz.prog 23 := ⟨Tryz.f23, Tryz.func23, by kernel_rfl, by kernel_rfl⟩
theorem cRPres (l : List Fd) (ps : List AS) (f : Fd) (hl : ps.length ≤ 8589934592) : HPure Tryz.prog 23 [pP (fdl l), pP (asl ps), f.pc] (prOf [pB (presB l ps f)]) := by
  refine hpure_of (nt := 41) Tryzok Tryz.func23 rfl rfl (Nat.le_of_ble_eq_true rfl) ?_; refine hw_seq ?_; refine hw_region (E := TryzE) Tryzok ?_; refine rm 0 rfl rfl rfl rfl rfl rfl ?_; refine rq rfl rfl rfl rfl rfl ?_
  refine rg_nil ?_; show HW _ _ _ _ _; refine hw_seq ?_; refine hw_region (E := TryzE) Tryzok ?_; (iterate 3 refine rq rfl rfl rfl rfl rfl ?_); refine rg_nil ?_; show HW _ _ _ _ _; refine hw_block ?_
  refine hw_loopK (ι := AS) ⟨[(0, some _), (1, some _), (5, some _)], [(0, some _)]⟩ ⟨⟨⟨_, rfl, CoR.refl _⟩, ⟨_, rfl, CoR.refl _⟩, ⟨_, rfl, CoR.refl _⟩, trivial⟩, ⟨⟨_, rfl, CoO.refl _⟩, trivial⟩⟩ (fun s => ⟨[(7, some (vA s))], []⟩) (fun s => PrI l ps f.lhs s) (fun s => 4294967296 - s.toNat) (f.lhs) (pr_zero _ _ _) ⟨⟨⟨_, rfl, (by first | exact CoR.refl _ | exact coi (by omega) | exact cob (by simp_all))⟩, trivial⟩, trivial⟩ ?_
  rintro s hs
  refine hw_block ?_; refine hw_seq ?_; refine hw_region (E := TryzE) Tryzok ?_; (iterate 2 refine rq rfl rfl rfl rfl rfl ?_); refine rg_nil ?_; show HW _ _ _ _ _; (iterate 2 refine hw_seq ?_)
  refine hw_region (E := TryzE) Tryzok ?_; refine rq rfl rfl rfl rfl rfl ?_; refine rg_nil ?_; show HW _ _ _ _ _; refine hw_block ?_
  refine hw_loopK (ι := Nat) ⟨[(0, some _), (1, some _), (5, some _), (8, some _)], [(0, some _)]⟩ ⟨⟨⟨_, rfl, CoR.refl _⟩, ⟨_, rfl, CoR.refl _⟩, ⟨_, rfl, CoR.refl _⟩, ⟨_, rfl, CoR.refl _⟩, trivial⟩, ⟨⟨_, rfl, CoO.refl _⟩, trivial⟩⟩ (fun i => ⟨[(7, some (vA (pRound l (ps.take i) s))), (9, some (vI i))], []⟩) (fun i => i ≤ ps.length) (fun i => ps.length - i) (0) (Nat.zero_le _) ⟨⟨⟨_, rfl, (by first | exact CoR.refl _ | exact coi (by omega) | exact cob (by simp_all))⟩, ⟨_, rfl, (by first | exact CoR.refl _ | exact coi (by omega) | exact cob (by simp_all))⟩, trivial⟩, trivial⟩ ?_
  rintro i hi
  (iterate 2 refine hw_seq ?_); refine hw_region (E := TryzE) Tryzok ?_; (iterate 4 refine rq rfl rfl rfl rfl rfl ?_); refine rg_nil ?_; show HW _ _ _ _ _; refine hw_cond _ rfl (fun r0 => ?_) (fun r0 => ?_)
  · skip
    have h0 := r0
    have h0 := of_decide_eq_true h0
    try simp only [Int.toNat_natCast] at h0
    refine hw_skip ?_; show HW _ _ _ _ _; refine hw_seq ?_; refine hw_block ?_; refine hw_draw (E := TryzE) Tryzok Tryzmixed [0, 1, 2, 3, 4, 5, 6, 7, 8, 9, 10, 11, 12, 13, 14, 15] ?_; (iterate 8 refine rq rfl rfl rfl rfl rfl ?_)
    refine rc rfl rfl rfl rfl rfl rfl good53 (cRClose l ((pRound l (ps.take i) s) &&& (ps.getD i default))) (⟨CoC.refl _, cci (bAnd _ _), trivial⟩) rfl rfl ?_; (iterate 7 refine rq rfl rfl rfl rfl rfl ?_); refine rg_nil ?_
    refine ⟨by kernel_rfl, ?_⟩; show HW _ _ _ _ _; refine hw_region (E := TryzE) Tryzok ?_; (iterate 3 refine rq rfl rfl rfl rfl rfl ?_); refine rg_nil ?_; refine ⟨i + 1, ?_, ?_, ?_⟩
    · show i + 1 ≤ _; omega
    · first | omega | (dsimp only; omega)
    · exact ⟨⟨⟨_, rfl, (cor_i ((pStep_v _ _ _).trans (congrArg asI (pRound_t (by omega)).symm)))⟩, ⟨_, rfl, (by first | exact CoR.refl _ | exact coi (by omega) | exact cob (by simp_all))⟩, ⟨_, rfl, CoR.refl _⟩, ⟨_, rfl, CoR.refl _⟩, ⟨_, rfl, CoR.refl _⟩, ⟨_, rfl, CoR.refl _⟩, trivial⟩, ⟨⟨_, rfl, CoO.refl _⟩, trivial⟩⟩
  · skip
    have h0 := r0
    have h0 := of_decide_eq_false h0
    try simp only [Int.toNat_natCast] at h0
    obtain rfl : i = ps.length := by omega
    rw [show ps.take ps.length = ps from List.take_length]
    refine hw_exit ?_; show HW _ _ _ _ _; refine hw_seq ?_; refine hw_region (E := TryzE) Tryzok ?_; (iterate 3 refine rq rfl rfl rfl rfl rfl ?_); refine rg_nil ?_; show HW _ _ _ _ _
    refine hw_cond _ rfl (fun r1 => ?_) (fun r1 => ?_)
    · skip
      have h1 := r1
      have h1 := of_decide_eq_true h1
      try simp only [Int.toNat_natCast] at h1
      have he : pRound l ps s = s := asI_inj.1 h1
      refine hw_seq ?_; refine hw_region (E := TryzE) Tryzok ?_; (iterate 3 refine rq rfl rfl rfl rfl rfl ?_); refine rc rfl rfl rfl rfl rfl rfl good54 (cRSub f.rhs (pRound l ps s)) (CoL.refl _) rfl rfl ?_
      refine rq rfl rfl rfl rfl rfl ?_; refine rg_nil ?_; show HW _ _ _ _ _; refine hw_ret ?_; refine ⟨.inr rfl, ?_⟩
      exact ⟨_, _, _, _, rfl, (by (repeat' apply And.intro) <;> first | trivial | exact Nat.le_of_ble_eq_true rfl | rfl), rfl, (by (repeat' apply And.intro) <;> first | trivial | exact Nat.le_of_ble_eq_true rfl | rfl), ⟨ccb (by rw [he]; exact pr_res hs he), trivial⟩⟩
    · skip
      have h1 := r1
      have h1 := of_decide_eq_false h1
      try simp only [Int.toNat_natCast] at h1
      have hne : ¬ pRound l ps s = s := fun e => h1 (by rw [e])
      refine hw_skip ?_; refine ⟨pRound l ps s, ?_, ?_, ?_⟩
      · exact pr_next hs
      · exact pr_less hne
      · exact ⟨⟨⟨_, rfl, (by first | exact CoR.refl _ | exact coi (by omega) | exact cob (by simp_all))⟩, ⟨_, rfl, CoR.refl _⟩, ⟨_, rfl, CoR.refl _⟩, ⟨_, rfl, CoR.refl _⟩, trivial⟩, ⟨⟨_, rfl, CoO.refl _⟩, trivial⟩⟩
theorem good11 : goodFn Tryz.prog 11 := ⟨Tryz.f11, Tryz.func11, by kernel_rfl, by kernel_rfl⟩
theorem cR24Subs (n : Int) (l : List Fd) : HPure Tryz.prog 11 [pI n, pP (fdl l)] (prOf [pP (asl (subF n l)), pI (errS n l 8)]) := by
  refine hpure_of (nt := 39) Tryzok Tryz.func11 rfl rfl (Nat.le_of_ble_eq_true rfl) ?_; refine hw_seq ?_; refine hw_region (E := TryzE) Tryzok ?_; (iterate 2 refine rq rfl rfl rfl rfl rfl ?_); refine rg_nil ?_; show HW _ _ _ _ _
  (iterate 2 refine hw_seq ?_); refine hw_region (E := TryzE) Tryzok ?_; (iterate 2 refine rq rfl rfl rfl rfl rfl ?_); refine rc rfl rfl rfl rfl rfl rfl good37 (cRErr n l 8) (CoL.refl _) rfl rfl ?_; refine rq rfl rfl rfl rfl rfl ?_
  refine rg_nil ?_; show HW _ _ _ _ _; refine hw_seq ?_; refine hw_region (E := TryzE) Tryzok ?_; (iterate 2 refine rq rfl rfl rfl rfl rfl ?_); refine rg_nil ?_; show HW _ _ _ _ _; refine hw_cond _ rfl (fun r0 => ?_) (fun r0 => ?_)
  · skip
    have h0 := r0
    have h0 := of_decide_eq_false (not_t h0)
    try simp only [Int.toNat_natCast] at h0
    refine hw_seq ?_; refine hw_region (E := TryzE) Tryzok ?_; (iterate 3 refine rq rfl rfl rfl rfl rfl ?_); refine rg_nil ?_; show HW _ _ _ _ _; refine hw_ret ?_; refine ⟨.inr rfl, ?_⟩
    exact ⟨_, _, _, _, rfl, (by (repeat' apply And.intro) <;> first | trivial | exact Nat.le_of_ble_eq_true rfl | rfl), rfl, (by (repeat' apply And.intro) <;> first | trivial | exact Nat.le_of_ble_eq_true rfl | rfl), ⟨CoC.one (nilS (subF_f h0)), CoC.refl _, trivial⟩⟩
  · skip
    have h0 := r0
    have h0 := of_decide_eq_true (not_f h0)
    try simp only [Int.toNat_natCast] at h0
    refine hw_skip ?_; show HW _ _ _ _ _; refine hw_seq ?_
    have hsl := subsC_len (fullI n)
    refine hw_region (E := TryzE) Tryzok ?_; refine rq rfl rfl rfl rfl rfl ?_; refine rc rfl rfl rfl rfl rfl rfl good39 (cRFull n) (CoL.refl _) rfl rfl ?_
    refine rc rfl rfl rfl rfl rfl rfl good38 (cRSubs (fullI n)) (CoL.refl _) rfl rfl ?_; refine rq rfl rfl rfl rfl rfl ?_; refine rg_nil ?_; show HW _ _ _ _ _; refine hw_seq ?_; refine hw_region (E := TryzE) Tryzok ?_
    refine rq rfl rfl rfl rfl rfl ?_; refine rg_nil ?_; show HW _ _ _ _ _; (iterate 2 refine hw_seq ?_); refine hw_region (E := TryzE) Tryzok ?_; refine rq rfl rfl rfl rfl rfl ?_; refine rg_nil ?_; show HW _ _ _ _ _
    refine hw_block ?_; refine hw_adopt 8 900 true 1 30 (lf sC []) (by decide) rfl (CoP.sl rfl (.inr rfl) (fun h => h) (fun i j hi _ => absurd hi (Nat.not_lt_zero i))) (.inr rfl) rfl ?_
    refine hw_loopK (ι := Nat) ⟨[(1, some _), (7, some _)], []⟩ ⟨⟨⟨_, rfl, CoR.refl _⟩, ⟨_, rfl, CoR.refl _⟩, trivial⟩, trivial⟩ (fun i => ⟨[(8, some (.v (.one (.ref 900 (sbfT n l i).length)))), (9, some (vI i))], [(900, some (.arr true 1 30 (sbfT n l i).length (lf sC (sbfT n l i))))]⟩) (fun i => i ≤ (subsC (fullI n)).length) (fun i => (subsC (fullI n)).length - i) (0) (Nat.zero_le _) ⟨⟨⟨_, rfl, (by first | exact CoR.refl _ | exact coi (by omega) | exact cob (by simp_all))⟩, ⟨_, rfl, (by first | exact CoR.refl _ | exact coi (by omega) | exact cob (by simp_all))⟩, trivial⟩, ⟨⟨_, rfl, CoO.refl _⟩, trivial⟩⟩ ?_
    rintro i hi
    have hlen := sbfT_len n l i
    (iterate 2 refine hw_seq ?_); refine hw_region (E := TryzE) Tryzok ?_; (iterate 4 refine rq rfl rfl rfl rfl rfl ?_); refine rg_nil ?_; show HW _ _ _ _ _; refine hw_cond _ rfl (fun r1 => ?_) (fun r1 => ?_)
    · skip
      have h1 := r1
      have h1 := of_decide_eq_true h1
      try simp only [Int.toNat_natCast] at h1
      refine hw_skip ?_; show HW _ _ _ _ _; refine hw_seq ?_; refine hw_block ?_; refine hw_seq ?_; refine hw_region (E := TryzE) Tryzok ?_; (iterate 5 refine rq rfl rfl rfl rfl rfl ?_)
      refine rc rfl rfl rfl rfl rfl rfl good40 (cRForm l ((subsC (fullI n)).getD i default)) (CoL.refl _) rfl rfl ?_; refine rg_nil ?_; show HW _ _ _ _ _; refine hw_cond _ rfl (fun r2 => ?_) (fun r2 => ?_)
      · skip
        have h2 := r2
        refine hw_region (E := TryzE) Tryzok ?_; (iterate 5 refine rq rfl rfl rfl rfl rfl ?_); refine rm 0 rfl rfl rfl rfl rfl rfl ?_; refine ra 1 true rfl rfl rfl rfl rfl rfl ?_; refine rq rfl rfl rfl rfl rfl ?_; refine rg_nil ?_
        show HW _ _ _ _ _; refine hw_region (E := TryzE) Tryzok ?_; (iterate 3 refine rq rfl rfl rfl rfl rfl ?_); refine rg_nil ?_
        first | (refine ⟨i + 1, ?_, ?_, ?_⟩
                 · show i + 1 ≤ _; omega
                 · first | omega | (dsimp only; omega)
                 · exact ⟨⟨⟨_, rfl, (ref_app (sbfT_t (by omega) (by assumption)))⟩, ⟨_, rfl, (by first | exact CoR.refl _ | exact coi (by omega) | exact cob (by simp_all))⟩, ⟨_, rfl, CoR.refl _⟩, ⟨_, rfl, CoR.refl _⟩, trivial⟩, ⟨⟨_, rfl, (arr_app1 (sbfT_t (by omega) (by assumption)) (CoP.refl _))⟩, trivial⟩⟩)
              | (refine ⟨i + 1, ?_, ?_, ?_⟩
                 · show i + 1 ≤ _; omega
                 · first | omega | (dsimp only; omega)
                 · exact ⟨⟨⟨_, rfl, (ref_same (sbfT_f (by omega) (by assumption)))⟩, ⟨_, rfl, (by first | exact CoR.refl _ | exact coi (by omega) | exact cob (by simp_all))⟩, ⟨_, rfl, CoR.refl _⟩, ⟨_, rfl, CoR.refl _⟩, trivial⟩, ⟨⟨_, rfl, (arr_same (sbfT_f (by omega) (by assumption)))⟩, trivial⟩⟩)
      · skip
        have h2 := r2
        refine hw_skip ?_; show HW _ _ _ _ _; refine hw_region (E := TryzE) Tryzok ?_; (iterate 3 refine rq rfl rfl rfl rfl rfl ?_); refine rg_nil ?_
        first | (refine ⟨i + 1, ?_, ?_, ?_⟩
                 · show i + 1 ≤ _; omega
                 · first | omega | (dsimp only; omega)
                 · exact ⟨⟨⟨_, rfl, (ref_app (sbfT_t (by omega) (by assumption)))⟩, ⟨_, rfl, (by first | exact CoR.refl _ | exact coi (by omega) | exact cob (by simp_all))⟩, ⟨_, rfl, CoR.refl _⟩, ⟨_, rfl, CoR.refl _⟩, trivial⟩, ⟨⟨_, rfl, (arr_app1 (sbfT_t (by omega) (by assumption)) (CoP.refl _))⟩, trivial⟩⟩)
              | (refine ⟨i + 1, ?_, ?_, ?_⟩
                 · show i + 1 ≤ _; omega
                 · first | omega | (dsimp only; omega)
                 · exact ⟨⟨⟨_, rfl, (ref_same (sbfT_f (by omega) (by assumption)))⟩, ⟨_, rfl, (by first | exact CoR.refl _ | exact coi (by omega) | exact cob (by simp_all))⟩, ⟨_, rfl, CoR.refl _⟩, ⟨_, rfl, CoR.refl _⟩, trivial⟩, ⟨⟨_, rfl, (arr_same (sbfT_f (by omega) (by assumption)))⟩, trivial⟩⟩)
    · skip
      have h1 := r1
      have h1 := of_decide_eq_false h1
      try simp only [Int.toNat_natCast] at h1
      obtain rfl : i = (subsC (fullI n)).length := by omega
      refine hw_exit ?_; show HW _ _ _ _ _; refine hw_seq ?_; refine hw_region (E := TryzE) Tryzok ?_; (iterate 3 refine rq rfl rfl rfl rfl rfl ?_); refine rg_nil ?_; refine hw_freeze 4 rfl rfl rfl ?_; show HW _ _ _ _ _
      refine hw_ret ?_; refine ⟨.inr rfl, ?_⟩
      exact ⟨_, _, _, _, rfl, (by (repeat' apply And.intro) <;> first | trivial | exact Nat.le_of_ble_eq_true rfl | rfl), rfl, (by (repeat' apply And.intro) <;> first | trivial | exact Nat.le_of_ble_eq_true rfl | rfl), ⟨CoC.one (CoP.of_eq (by rw [sbfT_end h0]; rfl)), cci h0.symm, trivial⟩⟩
theorem good8 : goodFn Tryz.prog 8 := ⟨Tryz.f8, Tryz.func8, by kernel_rfl, by kernel_rfl⟩
theorem cR24Obs (n : Int) (l : List Fd) : HPure Tryz.prog 8 [pI n, pP (fdl l)] (prOf [(obsF n l).pc, pI (obsE n l)]) := by
  refine hpure_of (nt := 46) Tryzok Tryz.func8 rfl rfl (Nat.le_of_ble_eq_true rfl) ?_; refine hw_seq ?_; refine hw_region (E := TryzE) Tryzok ?_; refine rm 0 rfl rfl rfl rfl rfl rfl ?_; refine rq rfl rfl rfl rfl rfl ?_
  refine rg_nil ?_; show HW _ _ _ _ _; refine hw_seq ?_; refine hw_region (E := TryzE) Tryzok ?_; (iterate 2 refine rq rfl rfl rfl rfl rfl ?_); refine rc rfl rfl rfl rfl rfl rfl good11 (cR24Subs n l) (CoL.refl _) rfl rfl ?_
  (iterate 5 refine rq rfl rfl rfl rfl rfl ?_); refine rg_nil ?_; show HW _ _ _ _ _; (iterate 2 refine hw_seq ?_); refine hw_region (E := TryzE) Tryzok ?_; (iterate 2 refine rq rfl rfl rfl rfl rfl ?_); refine rg_nil ?_
  show HW _ _ _ _ _; refine hw_cond _ rfl (fun r0 => ?_) (fun r0 => ?_)
  · skip
    have h0 := r0
    have h0 := of_decide_eq_false (not_t h0)
    try simp only [Int.toNat_natCast] at h0
    refine hw_seq ?_; refine hw_region (E := TryzE) Tryzok ?_; (iterate 2 refine rq rfl rfl rfl rfl rfl ?_); refine rs rfl rfl rfl rfl rfl ?_; refine rq rfl rfl rfl rfl rfl ?_; refine rg_nil ?_; show HW _ _ _ _ _; refine hw_ret ?_
    refine ⟨.inr rfl, ?_⟩
    exact ⟨_, _, _, _, rfl, (by (repeat' apply And.intro) <;> first | trivial | exact Nat.le_of_ble_eq_true rfl | rfl), rfl, (by (repeat' apply And.intro) <;> first | trivial | exact Nat.le_of_ble_eq_true rfl | rfl), ⟨CoC.of_eq (by rw [(obs_1 h0).1]; rfl), cci (obs_1 h0).2.symm, trivial⟩⟩
  · skip
    have h0 := r0
    have h0 := of_decide_eq_true (not_f h0)
    try simp only [Int.toNat_natCast] at h0
    refine hw_skip ?_; show HW _ _ _ _ _; refine hw_seq ?_
    have hml := minE_len n l
    have hsl := subF_len n l
    refine hw_region (E := TryzE) Tryzok ?_; (iterate 2 refine rq rfl rfl rfl rfl rfl ?_); refine rc rfl rfl rfl rfl rfl rfl good22 (cRCMin n l) (CoL.refl _) rfl rfl ?_; (iterate 5 refine rq rfl rfl rfl rfl rfl ?_); refine rg_nil ?_
    show HW _ _ _ _ _; (iterate 2 refine hw_seq ?_); refine hw_region (E := TryzE) Tryzok ?_; refine rq rfl rfl rfl rfl rfl ?_; refine rg_nil ?_; show HW _ _ _ _ _; refine hw_block ?_
    refine hw_loopK (ι := Nat) ⟨[(1, some _), (4, some _), (6, some _), (8, some _)], [(0, some _)]⟩ ⟨⟨⟨_, rfl, CoR.refl _⟩, ⟨_, rfl, CoR.refl _⟩, ⟨_, rfl, CoR.refl _⟩, ⟨_, rfl, CoR.refl _⟩, trivial⟩, ⟨⟨_, rfl, CoO.refl _⟩, trivial⟩⟩ (fun i => ⟨[(10, some (vI i))], []⟩) (fun i => i ≤ (minE n l).length ∧ ∀ j, j < i → (!presB l (subF n l) ((minE n l).getD j default)) = false) (fun i => (minE n l).length - i) (0) (⟨Nat.zero_le _, fun j hj => absurd hj (Nat.not_lt_zero j)⟩) ⟨⟨⟨_, rfl, (by first | exact CoR.refl _ | exact coi (by omega) | exact cob (by simp_all))⟩, trivial⟩, trivial⟩ ?_
    rintro i ⟨hi, hI⟩
    (iterate 2 refine hw_seq ?_); refine hw_region (E := TryzE) Tryzok ?_; (iterate 4 refine rq rfl rfl rfl rfl rfl ?_); refine rg_nil ?_; show HW _ _ _ _ _; refine hw_cond _ rfl (fun r1 => ?_) (fun r1 => ?_)
    · skip
      have h1 := r1
      have h1 := of_decide_eq_true h1
      try simp only [Int.toNat_natCast] at h1
      refine hw_skip ?_; show HW _ _ _ _ _; refine hw_seq ?_; refine hw_block ?_; refine hw_seq ?_; refine hw_region (E := TryzE) Tryzok ?_; (iterate 6 refine rq rfl rfl rfl rfl rfl ?_)
      refine rc rfl rfl rfl rfl rfl rfl good23 (cRPres l (subF n l) ((minE n l).getD i default) (by omega)) (CoL.refl _) rfl rfl ?_; refine rq rfl rfl rfl rfl rfl ?_; refine rg_nil ?_; show HW _ _ _ _ _
      refine hw_cond _ rfl (fun r2 => ?_) (fun r2 => ?_)
      · skip
        have h2 := r2
        have h2 := not_t h2
        refine hw_seq ?_; refine hw_region (E := TryzE) Tryzok ?_; (iterate 4 refine rq rfl rfl rfl rfl rfl ?_); refine rs rfl rfl rfl rfl rfl ?_; refine rq rfl rfl rfl rfl rfl ?_; refine rg_nil ?_; show HW _ _ _ _ _
        refine hw_ret ?_; refine ⟨.inr rfl, ?_⟩
        exact ⟨_, _, _, _, rfl, (by (repeat' apply And.intro) <;> first | trivial | exact Nat.le_of_ble_eq_true rfl | rfl), rfl, (by (repeat' apply And.intro) <;> first | trivial | exact Nat.le_of_ble_eq_true rfl | rfl), ⟨CoC.of_eq (by rw [(obs_3 h0 (by omega) (by simp_all) hI).1]; rfl), cci (obs_3 h0 (by omega) (by simp_all) hI).2.symm, trivial⟩⟩
      · skip
        have h2 := r2
        have h2 := not_f h2
        refine hw_skip ?_; show HW _ _ _ _ _; refine hw_region (E := TryzE) Tryzok ?_; (iterate 3 refine rq rfl rfl rfl rfl rfl ?_); refine rg_nil ?_; refine ⟨i + 1, ?_, ?_, ?_⟩
        · refine ⟨by omega, fun j hj => ?_⟩
          by_cases e : j = i
          · rw [e]; simp_all
          · exact hI j (by omega)
        · first | omega | (dsimp only; omega)
        · exact ⟨⟨⟨_, rfl, (by first | exact CoR.refl _ | exact coi (by omega) | exact cob (by simp_all))⟩, ⟨_, rfl, CoR.refl _⟩, ⟨_, rfl, CoR.refl _⟩, ⟨_, rfl, CoR.refl _⟩, ⟨_, rfl, CoR.refl _⟩, trivial⟩, ⟨⟨_, rfl, CoO.refl _⟩, trivial⟩⟩
    · skip
      have h1 := r1
      have h1 := of_decide_eq_false h1
      try simp only [Int.toNat_natCast] at h1
      obtain rfl : i = (minE n l).length := by omega
      refine hw_exit ?_; show HW _ _ _ _ _; refine hw_seq ?_; refine hw_region (E := TryzE) Tryzok ?_; refine rq rfl rfl rfl rfl rfl ?_; refine rs rfl rfl rfl rfl rfl ?_; refine rq rfl rfl rfl rfl rfl ?_; refine rg_nil ?_
      show HW _ _ _ _ _; refine hw_ret ?_; refine ⟨.inr rfl, ?_⟩
      exact ⟨_, _, _, _, rfl, (by (repeat' apply And.intro) <;> first | trivial | exact Nat.le_of_ble_eq_true rfl | rfl), rfl, (by (repeat' apply And.intro) <;> first | trivial | exact Nat.le_of_ble_eq_true rfl | rfl), ⟨CoC.of_eq (by rw [(obs_2b h0 hI).1]; rfl), cci (obs_2b h0 hI).2.symm, trivial⟩⟩
end Go.Hx
end
section
namespace Go.Hx
open Go.Proofs
theorem subsC_sub {p x : AS} (h : x ∈ subsC p) : sub x p := by
  unfold subsC at h
  split at h
  · cases h
  · exact mem_subsL.1 h
theorem violB_none {l : List Fd} {p : AS} (h : ∀ x, sub x p → vioP l p x = false) : violB l p = false := by
  have e : violX l p = none := by
    unfold violX
    rw [List.find?_eq_none]
    intro x hx
    rw [h x (subsC_sub hx)]
    decide
  unfold violB
  rw [e]
  rfl
theorem vioP_iff {l : List Fd} {p x : AS} : vioP l p x = true ↔ clo l x &&& p ≠ x ∧ clo l x &&& p ≠ p := by
  unfold vioP
  rw [Bool.and_eq_true, decide_eq_true_iff, decide_eq_true_iff]
theorem full_bit {n : Int} (h : n ≤ 32) {a : Nat} (ha : a < 32) : (fullI n).getLsbD a = decide (a < n.toNat) := by
  unfold fullI
  rw [fullS_bit _ a ha, Nat.min_eq_left (by omega)]
theorem mem_subF {n : Int} {l : List Fd} (h : errS n l 8 = 0) {s : AS} (h1 : sub s (fullI n)) (h2 : violB l s = false) : s ∈ subF n l := by
  rw [subF_t h, List.mem_filter]
  refine ⟨?_, by rw [h2]; rfl⟩
  have := full_bsz (n := n) (m := 8) (errS_ok h).2 (by omega)
  rw [subsC_f (by omega)]
  exact mem_subsL.2 h1
theorem key_form {n : Int} {l : List Fd} {k : AS} (hn : n ≤ 32) (h : isKey n l k = true) : violB l k = false := by
  unfold isKey at h
  rw [Bool.and_eq_true, List.all_eq_true] at h
  obtain ⟨h1, h2⟩ := h
  obtain ⟨hv, hs, hc⟩ := of_decide_eq_true h1
  refine violB_none fun x hx => ?_
  cases hq : vioP l k x with
  | false => rfl
  | true =>
    exfalso
    obtain ⟨g1, _⟩ := vioP_iff.1 hq
    apply g1
    refine sub_antisymm (sub_bit.2 fun a ha hb => ?_) (sub_and_both clo_ge hx)
    rw [BitVec.getLsbD_and, Bool.and_eq_true] at hb
    cases hxa : x.getLsbD a with
    | true => rfl
    | false =>
      exfalso
      have ha2 : a < n.toNat := by
        have := sub_bit.1 hs a ha hb.2
        rw [full_bit hn ha] at this
        exact of_decide_eq_true this
      have hno : sub x (noA k a) := sub_bit.2 fun i hi hbi => by
        unfold noA
        have h1 : ((1 : AS) <<< a).getLsbD i = decide (i = a) := bit_one a i hi
        rw [BitVec.getLsbD_and, BitVec.getLsbD_not, sub_bit.1 hx i hi hbi, h1, decide_eq_true hi]
        by_cases hia : i = a
        · subst hia; rw [hxa] at hbi; cases hbi
        · rw [decide_eq_false hia]; rfl
      have hk : sub k (clo l (noA k a)) := sub_bit.2 fun i hi hbi => by
        by_cases hia : i = a
        · subst hia
          exact sub_bit.1 (clo_mono hno) i hi hb.1
        · refine sub_bit.1 clo_ge i hi ?_
          unfold noA
          have h1 : ((1 : AS) <<< a).getLsbD i = decide (i = a) := bit_one a i hi
          rw [BitVec.getLsbD_and, BitVec.getLsbD_not, hbi, h1, decide_eq_true hi, decide_eq_false hia]
          rfl
      have hns : sub (noA k a) (fullI n) := sub_trans sub_and_r hs
      have hcl : clo l (noA k a) = fullI n := sub_antisymm (clo_full hv hns) (by
        rw [← hc]
        exact clo_least clo_isClosed hk)
      have := h2 a (List.mem_range.2 ha2)
      rw [hb.2, show skey n l (noA k a) = true from decide_eq_true ⟨hv, hns, hcl⟩] at this
      cases this
theorem sub_one {y : AS} {i : Nat} (h : sub y ((1 : AS) <<< i)) : y = 0 ∨ y = (1 : AS) <<< i := by
  by_cases h0 : y = 0
  · exact .inl h0
  · refine .inr (sub_antisymm h (sub_bit.2 fun a ha hb => ?_))
    have h1 : ((1 : AS) <<< i).getLsbD a = decide (a = i) := bit_one i a ha
    rw [h1] at hb
    have hai := of_decide_eq_true hb
    subst hai
    cases hy : y.getLsbD a with
    | true => rfl
    | false =>
      exfalso
      apply h0
      apply BitVec.eq_of_getLsbD_eq
      intro j hj
      cases hyj : y.getLsbD j with
      | false => simp
      | true =>
        have := sub_bit.1 h j hj hyj
        have h2 : ((1 : AS) <<< a).getLsbD j = decide (j = a) := bit_one a j hj
        rw [h2] at this
        have := of_decide_eq_true this
        subst this
        rw [hy] at hyj
        cases hyj
theorem one_form {l : List Fd} {i : Nat} : violB l ((1 : AS) <<< i) = false := by
  refine violB_none fun x hx => ?_
  cases hq : vioP l ((1 : AS) <<< i) x with
  | false => rfl
  | true =>
    exfalso
    obtain ⟨g1, g2⟩ := vioP_iff.1 hq
    rcases sub_one (y := clo l x &&& ((1 : AS) <<< i)) sub_and_l with e | e
    · have hx0 : sub x 0 := by rw [← e]; exact sub_and_both clo_ge hx
      exact g1 (sub_antisymm (by rw [e]; exact sub_bit.2 fun a ha hb => by simp at hb) (by rw [e]; exact hx0))
    · exact g2 e
section
variable {d : Dps}
theorem cPossO (h : d.l.length ≤ 6) : HPure Tryz.prog 9 [pI d.num, pP (fdl d.fds)] (prOf [pP (asl (possL d.num d.fds)), pB (decide (obsE d.num d.fds = 4)), pI 0]) := by
  have hh := cPoss d.num d.fds
  have e : possB d.num d.fds = decide (obsE d.num d.fds = 4) := by
    unfold possB possAll
    rw [decide_eq_true (dps_err h), Bool.true_and, poss_obs (dps_err h)]
  rw [e, dps_err h] at hh
  exact hh
theorem cBSubs5 (h : d.l.length ≤ 6) : HPure Tryz.prog 10 [pI d.num, pP (fdl d.fds)] (prOf [pP (asl (subF d.num d.fds)), pI 0]) := by
  have hh := cBSubs d.num d.fds
  rw [dps_err h] at hh
  exact hh
theorem cR24Subs5 (h : d.l.length ≤ 6) : HPure Tryz.prog 11 [pI d.num, pP (fdl d.fds)] (prOf [pP (asl (subF d.num d.fds)), pI 0]) := by
  have hh := cR24Subs d.num d.fds
  rw [dps_err h] at hh
  exact hh
theorem cSame5 (d : Dps) : HPure Tryz.prog 12 [pP (asl (subF d.num d.fds)), pP (asl (subF d.num d.fds))] (prOf [pB true]) := by
  have hh := cSameS (subF d.num d.fds) (subF d.num d.fds)
  rw [decide_eq_true rfl] at hh
  exact hh
theorem cRAll5 (h : d.l.length ≤ 6) : HPure Tryz.prog 13 [pI d.num, pP (fdl d.fds)] (prOf [pP (asl (keysL d.num d.fds)), pI 0]) := by
  have hh := cRAll d.num d.fds
  rw [dps_ok h] at hh
  exact hh
theorem cInK (h : d.l.length ≤ 6) {i : Nat} (hi : i < (keysL d.num d.fds).length) : HPure Tryz.prog 14 [pP (asl (subF d.num d.fds)), pA ((keysL d.num d.fds).getD i default)] (prOf [pB true]) := by
  have hh := cIn (subF d.num d.fds) ((keysL d.num d.fds).getD i default)
  have hm : (keysL d.num d.fds).getD i default ∈ keysL d.num d.fds := by
    rw [List.getD_eq_getElem?_getD, List.getElem?_eq_getElem hi]
    exact List.getElem_mem hi
  rw [decide_eq_true (show (keysL d.num d.fds).getD i default ∈ subF d.num d.fds by
    generalize (keysL d.num d.fds).getD i default = k at hm
    rw [keysL_t (dps_ok h), mem_ord] at hm
    unfold keysT at hm
    have hk := (List.mem_filter.1 hm).2
    have hs : skey d.num d.fds k = true := by
      unfold isKey at hk
      rw [Bool.and_eq_true] at hk
      exact hk.1
    exact mem_subF (dps_err h) (of_decide_eq_true hs).2.1 (key_form (by have := (num_le d).2; omega) hk))] at hh
  exact hh
theorem cInOne (h : d.l.length ≤ 6) {i : Nat} (hi : (i : Int) < d.num) : HPure Tryz.prog 14 [pP (asl (subF d.num d.fds)), pA ((1 : AS) <<< i)] (prOf [pB true]) := by
  have hh := cIn (subF d.num d.fds) ((1 : AS) <<< i)
  rw [decide_eq_true (show (1 : AS) <<< i ∈ subF d.num d.fds from mem_subF (dps_err h) (sub_bit.2 fun a ha hb => by
    have h1 : ((1 : AS) <<< i).getLsbD a = decide (a = i) := bit_one i a ha
    rw [h1] at hb
    have := of_decide_eq_true hb
    subst this
    rw [full_bit (by have := (num_le d).2; omega) ha]
    exact decide_eq_true (by omega)) one_form)] at hh
  exact hh
end
end Go.Hx
end
section
namespace Go.Hx
open Go.Proofs
set_option maxRecDepth 100000
theorem cLaw3 (d : Dps) (hl : d.l.length ≤ 16777216) : HPure Tryz.prog 3 [d.pc] (prOf [pB true]) := by
  refine hpure_of (nt := 63) Tryzok Tryz.func3 rfl rfl (Nat.le_of_ble_eq_true rfl) ?_; refine hw_seq ?_; refine hw_region (E := TryzE) Tryzok ?_; refine rm 0 rfl rfl rfl rfl rfl rfl ?_; refine rq rfl rfl rfl rfl rfl ?_
  refine rg_nil ?_; show HW _ _ _ _ _; refine hw_seq ?_; refine hw_region (E := TryzE) Tryzok ?_; refine rq rfl rfl rfl rfl rfl ?_; refine rc rfl rfl rfl rfl rfl rfl good5 (cOf d hl) (CoL.refl _) rfl rfl ?_
  (iterate 7 refine rq rfl rfl rfl rfl rfl ?_); refine rg_nil ?_; show HW _ _ _ _ _; (iterate 2 refine hw_seq ?_); refine hw_region (E := TryzE) Tryzok ?_; refine rc rfl rfl rfl rfl rfl rfl good6 (cAwake) (CoL.refl _) rfl rfl ?_
  (iterate 5 refine rq rfl rfl rfl rfl rfl ?_); refine rg_nil ?_; show HW _ _ _ _ _; refine hw_cond _ rfl (fun r0 => ?_) (fun r0 => ?_)
  · skip
    have h0 := r0
    have h0 := not_t h0
    refine hw_seq ?_; refine hw_region (E := TryzE) Tryzok ?_; refine rc rfl rfl rfl rfl rfl rfl good6 (cAwake) (CoL.refl _) rfl rfl ?_; refine rq rfl rfl rfl rfl rfl ?_; refine rg_nil ?_; show HW _ _ _ _ _; refine hw_ret ?_
    refine ⟨.inr rfl, ?_⟩
    exact ⟨_, _, _, _, rfl, (by (repeat' apply And.intro) <;> first | trivial | exact Nat.le_of_ble_eq_true rfl | rfl), rfl, (by (repeat' apply And.intro) <;> first | trivial | exact Nat.le_of_ble_eq_true rfl | rfl), CoL.refl _⟩
  · skip
    have h0 := r0
    have h0 := not_f h0
    have hd : d.l.length ≤ 6 := of_decide_eq_true h0
    refine hw_skip ?_; show HW _ _ _ _ _; refine hw_seq ?_; refine hw_region (E := TryzE) Tryzok ?_; (iterate 2 refine rq rfl rfl rfl rfl rfl ?_); refine rc rfl rfl rfl rfl rfl rfl good7 (cObs d.num d.fds) (CoL.refl _) rfl rfl ?_
    (iterate 3 refine rq rfl rfl rfl rfl rfl ?_); refine rm 1 rfl rfl rfl rfl rfl rfl ?_; refine rs rfl rfl rfl rfl rfl ?_; refine rq rfl rfl rfl rfl rfl ?_; refine rg_nil ?_; show HW _ _ _ _ _; refine hw_seq ?_
    refine hw_region (E := TryzE) Tryzok ?_; (iterate 2 refine rq rfl rfl rfl rfl rfl ?_); refine rc rfl rfl rfl rfl rfl rfl good8 (cR24Obs d.num d.fds) (CoL.refl _) rfl rfl ?_; (iterate 3 refine rq rfl rfl rfl rfl rfl ?_)
    refine rm 2 rfl rfl rfl rfl rfl rfl ?_; refine rs rfl rfl rfl rfl rfl ?_; refine rq rfl rfl rfl rfl rfl ?_; refine rg_nil ?_; show HW _ _ _ _ _; refine hw_seq ?_; refine hw_region (E := TryzE) Tryzok ?_
    (iterate 2 refine rq rfl rfl rfl rfl rfl ?_); refine rc rfl rfl rfl rfl rfl rfl good9 (cPossO hd) (CoL.refl _) rfl rfl ?_; (iterate 7 refine rq rfl rfl rfl rfl rfl ?_); refine rg_nil ?_; show HW _ _ _ _ _; refine hw_seq ?_
    refine hw_region (E := TryzE) Tryzok ?_; (iterate 4 refine rq rfl rfl rfl rfl rfl ?_); refine rsplit rfl rfl (fun r1 => ?_) (fun r1 => ?_)
    · skip
      have h1 := r1
      (iterate 3 refine rq rfl rfl rfl rfl (gtt r1) ?_); (iterate 2 refine rq rfl rfl rfl rfl rfl ?_); refine rsplit rfl rfl (fun r2 => ?_) (fun r2 => ?_)
      · skip
        have h2 := r2
        have h2 := bif_t r1 h2
        have h2 := of_decide_eq_true h2
        try simp only [Int.toNat_natCast] at h2
        (iterate 2 refine rq rfl rfl rfl rfl (gtt r2) ?_); (iterate 2 refine rq rfl rfl rfl rfl rfl ?_); refine rsplit rfl rfl (fun r3 => ?_) (fun r3 => ?_)
        · skip
          have h3 := r3
          have h3 := bif_t r2 h3
          have h3 := of_decide_eq_true h3
          try simp only [Int.toNat_natCast] at h3
          (iterate 4 refine rq rfl rfl rfl rfl (gtt r3) ?_); (iterate 2 refine rq rfl rfl rfl rfl rfl ?_); refine rg_nil ?_; show HW _ _ _ _ _; refine hw_ret ?_; refine ⟨.inr rfl, ?_⟩
          exact ⟨_, _, _, _, rfl, (by (repeat' apply And.intro) <;> first | trivial | exact Nat.le_of_ble_eq_true rfl | rfl), rfl, (by (repeat' apply And.intro) <;> first | trivial | exact Nat.le_of_ble_eq_true rfl | rfl), ⟨ccb (by simp_all), trivial⟩⟩
        · skip
          have h3 := r3
          have h3 := bif_t r2 h3
          have h3 := of_decide_eq_false h3
          try simp only [Int.toNat_natCast] at h3
          (iterate 4 refine rk rfl rfl rfl (gft r3) ?_); refine rq rfl rfl rfl rfl rfl ?_ (hp := r3); refine rq rfl rfl rfl rfl rfl ?_; refine rg_nil ?_; show HW _ _ _ _ _; refine hw_ret ?_; refine ⟨.inr rfl, ?_⟩
          exact ⟨_, _, _, _, rfl, (by (repeat' apply And.intro) <;> first | trivial | exact Nat.le_of_ble_eq_true rfl | rfl), rfl, (by (repeat' apply And.intro) <;> first | trivial | exact Nat.le_of_ble_eq_true rfl | rfl), ⟨ccb (by simp_all), trivial⟩⟩
      · skip
        have h2 := r2
        have h2 := bif_t r1 h2
        have h2 := of_decide_eq_false h2
        try simp only [Int.toNat_natCast] at h2
        (iterate 2 refine rk rfl rfl rfl (gft r2) ?_); refine rq rfl rfl rfl rfl rfl ?_ (hp := r2); refine rq rfl rfl rfl rfl rfl ?_; (iterate 4 refine rk rfl rfl rfl rfl ?_); (iterate 2 refine rq rfl rfl rfl rfl rfl ?_)
        refine rg_nil ?_; show HW _ _ _ _ _; refine hw_ret ?_; refine ⟨.inr rfl, ?_⟩
        exact ⟨_, _, _, _, rfl, (by (repeat' apply And.intro) <;> first | trivial | exact Nat.le_of_ble_eq_true rfl | rfl), rfl, (by (repeat' apply And.intro) <;> first | trivial | exact Nat.le_of_ble_eq_true rfl | rfl), ⟨ccb (by simp_all), trivial⟩⟩
    · skip
      have h1 := r1
      (iterate 3 refine rk rfl rfl rfl (gft r1) ?_); refine rq rfl rfl rfl rfl rfl ?_ (hp := r1); refine rq rfl rfl rfl rfl rfl ?_; (iterate 2 refine rk rfl rfl rfl rfl ?_); (iterate 2 refine rq rfl rfl rfl rfl rfl ?_)
      (iterate 4 refine rk rfl rfl rfl rfl ?_); (iterate 2 refine rq rfl rfl rfl rfl rfl ?_); refine rg_nil ?_; show HW _ _ _ _ _; refine hw_ret ?_; refine ⟨.inr rfl, ?_⟩
      exact ⟨_, _, _, _, rfl, (by (repeat' apply And.intro) <;> first | trivial | exact Nat.le_of_ble_eq_true rfl | rfl), rfl, (by (repeat' apply And.intro) <;> first | trivial | exact Nat.le_of_ble_eq_true rfl | rfl), ⟨ccb (by simp_all), trivial⟩⟩
theorem cLaw4 (d : Dps) (hl : d.l.length ≤ 16777216) : HPure Tryz.prog 4 [d.pc] (prOf [pB true]) := by
  refine hpure_of (nt := 78) Tryzok Tryz.func4 rfl rfl (Nat.le_of_ble_eq_true rfl) ?_; refine hw_seq ?_; refine hw_region (E := TryzE) Tryzok ?_; refine rm 0 rfl rfl rfl rfl rfl rfl ?_; refine rq rfl rfl rfl rfl rfl ?_
  refine rg_nil ?_; show HW _ _ _ _ _; refine hw_seq ?_; refine hw_region (E := TryzE) Tryzok ?_; refine rq rfl rfl rfl rfl rfl ?_; refine rc rfl rfl rfl rfl rfl rfl good5 (cOf d hl) (CoL.refl _) rfl rfl ?_
  (iterate 7 refine rq rfl rfl rfl rfl rfl ?_); refine rg_nil ?_; show HW _ _ _ _ _; (iterate 2 refine hw_seq ?_); refine hw_region (E := TryzE) Tryzok ?_; refine rc rfl rfl rfl rfl rfl rfl good6 (cAwake) (CoL.refl _) rfl rfl ?_
  (iterate 5 refine rq rfl rfl rfl rfl rfl ?_); refine rg_nil ?_; show HW _ _ _ _ _; refine hw_cond _ rfl (fun r0 => ?_) (fun r0 => ?_)
  · skip
    have h0 := r0
    have h0 := not_t h0
    refine hw_seq ?_; refine hw_region (E := TryzE) Tryzok ?_; refine rc rfl rfl rfl rfl rfl rfl good6 (cAwake) (CoL.refl _) rfl rfl ?_; refine rq rfl rfl rfl rfl rfl ?_; refine rg_nil ?_; show HW _ _ _ _ _; refine hw_ret ?_
    refine ⟨.inr rfl, ?_⟩
    exact ⟨_, _, _, _, rfl, (by (repeat' apply And.intro) <;> first | trivial | exact Nat.le_of_ble_eq_true rfl | rfl), rfl, (by (repeat' apply And.intro) <;> first | trivial | exact Nat.le_of_ble_eq_true rfl | rfl), CoL.refl _⟩
  · skip
    have h0 := r0
    have h0 := not_f h0
    have hd : d.l.length ≤ 6 := of_decide_eq_true h0
    refine hw_skip ?_; show HW _ _ _ _ _; refine hw_seq ?_; refine hw_region (E := TryzE) Tryzok ?_; (iterate 2 refine rq rfl rfl rfl rfl rfl ?_); refine rc rfl rfl rfl rfl rfl rfl good10 (cBSubs5 hd) (CoL.refl _) rfl rfl ?_
    (iterate 5 refine rq rfl rfl rfl rfl rfl ?_); refine rg_nil ?_; show HW _ _ _ _ _; refine hw_seq ?_; refine hw_region (E := TryzE) Tryzok ?_; (iterate 2 refine rq rfl rfl rfl rfl rfl ?_)
    refine rc rfl rfl rfl rfl rfl rfl good11 (cR24Subs5 hd) (CoL.refl _) rfl rfl ?_; (iterate 5 refine rq rfl rfl rfl rfl rfl ?_); refine rg_nil ?_; show HW _ _ _ _ _; (iterate 2 refine hw_seq ?_)
    refine hw_region (E := TryzE) Tryzok ?_; (iterate 6 refine rq rfl rfl rfl rfl rfl ?_); refine rc rfl rfl rfl rfl rfl rfl good12 (cSame5 d) (CoL.refl _) rfl rfl ?_; (iterate 2 refine rq rfl rfl rfl rfl rfl ?_); refine rg_nil ?_
    show HW _ _ _ _ _; refine hw_cond _ rfl (fun e => by cases e) (fun _ => ?_); refine hw_skip ?_; show HW _ _ _ _ _; refine hw_seq ?_; refine hw_region (E := TryzE) Tryzok ?_; (iterate 2 refine rq rfl rfl rfl rfl rfl ?_)
    refine rc rfl rfl rfl rfl rfl rfl good13 (cRAll5 hd) (CoL.refl _) rfl rfl ?_; (iterate 5 refine rq rfl rfl rfl rfl rfl ?_); refine rg_nil ?_; show HW _ _ _ _ _; (iterate 2 refine hw_seq ?_)
    refine hw_region (E := TryzE) Tryzok ?_; (iterate 3 refine rq rfl rfl rfl rfl rfl ?_); refine rg_nil ?_; show HW _ _ _ _ _; refine hw_block ?_
    refine hw_loopK (ι := Nat) ⟨[(3, some _), (6, some _), (11, some _), (55, some _), (56, some _)], []⟩ ⟨⟨⟨_, rfl, CoR.refl _⟩, ⟨_, rfl, CoR.refl _⟩, ⟨_, rfl, CoR.refl _⟩, ⟨_, rfl, CoR.refl _⟩, ⟨_, rfl, CoR.refl _⟩, trivial⟩, trivial⟩ (fun i => ⟨[(57, some (vI i))], []⟩) (fun i => i ≤ (keysL d.num d.fds).length) (fun i => (keysL d.num d.fds).length - i) (0) (Nat.zero_le _) ⟨⟨⟨_, rfl, (by first | exact CoR.refl _ | exact coi (by omega) | exact cob (by simp_all))⟩, trivial⟩, trivial⟩ ?_
    rintro i hi
    have hkl := keysL_len d.num d.fds
    refine hw_seq ?_; refine hw_region (E := TryzE) Tryzok ?_; refine rq rfl rfl rfl rfl rfl ?_; refine rg_nil ?_; show HW _ _ _ _ _; refine hw_seq ?_; refine hw_cond _ rfl (fun r1 => ?_) (fun r1 => ?_)
    · skip
      have h1 := r1
      have h1 := of_decide_eq_true h1
      try simp only [Int.toNat_natCast] at h1
      refine hw_skip ?_; show HW _ _ _ _ _; refine hw_seq ?_; refine hw_block ?_; refine hw_seq ?_; refine hw_region (E := TryzE) Tryzok ?_; (iterate 3 refine rq rfl rfl rfl rfl rfl ?_); refine rg_nil ?_; show HW _ _ _ _ _
      refine hw_seq ?_; refine hw_region (E := TryzE) Tryzok ?_; (iterate 2 refine rq rfl rfl rfl rfl rfl ?_); refine rc rfl rfl rfl rfl rfl rfl good14 (cInK hd (i := i) (by omega)) (CoL.refl _) rfl rfl ?_
      refine rq rfl rfl rfl rfl rfl ?_; refine rg_nil ?_; show HW _ _ _ _ _; refine hw_cond _ rfl (fun e => by cases e) (fun _ => ?_); refine hw_skip ?_; show HW _ _ _ _ _; refine hw_region (E := TryzE) Tryzok ?_
      (iterate 2 refine rq rfl rfl rfl rfl rfl ?_); refine rg_nil ?_; refine ⟨i + 1, ?_, ?_, ?_⟩
      · show i + 1 ≤ _; omega
      · first | omega | (dsimp only; omega)
      · exact ⟨⟨⟨_, rfl, (by first | exact CoR.refl _ | exact coi (by omega) | exact cob (by simp_all))⟩, ⟨_, rfl, CoR.refl _⟩, ⟨_, rfl, CoR.refl _⟩, ⟨_, rfl, CoR.refl _⟩, ⟨_, rfl, CoR.refl _⟩, ⟨_, rfl, CoR.refl _⟩, trivial⟩, trivial⟩
    · skip
      have h1 := r1
      have h1 := of_decide_eq_false h1
      try simp only [Int.toNat_natCast] at h1
      obtain rfl : i = (keysL d.num d.fds).length := by omega
      refine hw_exit ?_; show HW _ _ _ _ _; (iterate 2 refine hw_seq ?_); refine hw_region (E := TryzE) Tryzok ?_; (iterate 2 refine rq rfl rfl rfl rfl rfl ?_); refine rg_nil ?_; show HW _ _ _ _ _; refine hw_block ?_
      have hn := num_le d
      refine hw_loopK (ι := Nat) ⟨[(6, some _), (11, some _), (66, some _)], []⟩ ⟨⟨⟨_, rfl, CoR.refl _⟩, ⟨_, rfl, CoR.refl _⟩, ⟨_, rfl, CoR.refl _⟩, trivial⟩, trivial⟩ (fun i => ⟨[(67, some (vI i))], []⟩) (fun i => (i : Int) ≤ d.num) (fun i => d.num.toNat - i) (0) (hn.1) ⟨⟨⟨_, rfl, (by first | exact CoR.refl _ | exact coi (by omega) | exact cob (by simp_all))⟩, trivial⟩, trivial⟩ ?_
      rintro i hi
      refine hw_seq ?_; refine hw_region (E := TryzE) Tryzok ?_; refine rq rfl rfl rfl rfl rfl ?_; refine rg_nil ?_; show HW _ _ _ _ _; refine hw_seq ?_; refine hw_cond _ rfl (fun r2 => ?_) (fun r2 => ?_)
      · skip
        have h2 := r2
        have h2 := of_decide_eq_true h2
        try simp only [Int.toNat_natCast] at h2
        refine hw_skip ?_; show HW _ _ _ _ _; refine hw_seq ?_; refine hw_block ?_; refine hw_seq ?_; refine hw_region (E := TryzE) Tryzok ?_; (iterate 2 refine rq rfl rfl rfl rfl rfl ?_); refine rg_nil ?_; show HW _ _ _ _ _
        refine hw_seq ?_; refine hw_region (E := TryzE) Tryzok ?_; (iterate 3 refine rq rfl rfl rfl rfl rfl ?_)
        refine rc rfl rfl rfl rfl rfl rfl good14 (cInOne hd (i := i) (by omega)) (⟨CoC.refl _, cci (shl_one i), trivial⟩) rfl rfl ?_; refine rq rfl rfl rfl rfl rfl ?_; refine rg_nil ?_; show HW _ _ _ _ _
        refine hw_cond _ rfl (fun e => by cases e) (fun _ => ?_); refine hw_skip ?_; show HW _ _ _ _ _; refine hw_region (E := TryzE) Tryzok ?_; (iterate 2 refine rq rfl rfl rfl rfl rfl ?_); refine rg_nil ?_
        refine ⟨i + 1, ?_, ?_, ?_⟩
        · show ((i + 1 : Nat) : Int) ≤ _; omega
        · first | omega | (dsimp only; omega)
        · exact ⟨⟨⟨_, rfl, (by first | exact CoR.refl _ | exact coi (by omega) | exact cob (by simp_all))⟩, ⟨_, rfl, CoR.refl _⟩, ⟨_, rfl, CoR.refl _⟩, ⟨_, rfl, CoR.refl _⟩, trivial⟩, trivial⟩
      · skip
        have h2 := r2
        have h2 := of_decide_eq_false h2
        try simp only [Int.toNat_natCast] at h2
        refine hw_exit ?_; show HW _ _ _ _ _; refine hw_seq ?_; refine hw_region (E := TryzE) Tryzok ?_; (iterate 3 refine rq rfl rfl rfl rfl rfl ?_); refine rg_nil ?_; show HW _ _ _ _ _; refine hw_ret ?_; refine ⟨.inr rfl, ?_⟩
        exact ⟨_, _, _, _, rfl, (by (repeat' apply And.intro) <;> first | trivial | exact Nat.le_of_ble_eq_true rfl | rfl), rfl, (by (repeat' apply And.intro) <;> first | trivial | exact Nat.le_of_ble_eq_true rfl | rfl), ⟨ccb (by simp_all), trivial⟩⟩
end Go.Hx
end
