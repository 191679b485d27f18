/- A part of the proof: lemmas for the theorem of this claim, merged by a program of ours out of V4, Cs5. -/
import Derived.Test.YtgeliioenkmfhaaGreatDoorZ16
set_option linter.all false
section
namespace Go.Hx
open Go.Proofs
set_option maxRecDepth 100000
theorem good27 : goodFn Tryz.prog 27 := ⟨Tryz.f27, Tryz.func27, by kernel_rfl, by kernel_rfl⟩
theorem clone75 (n : Nat) (c : Bool) (f : Nat → Nat → PV) (hn : n ≤ 35184372088832) :
    HFun Tryz.prog 27 [.one (.p (.sl n 1 c f))] [] (.v (.one (.ref 0 n))) [(0, .arr true 1 30 n f)] [] := by
  refine hfun_of (nt := 8) Tryzok Tryz.func27 rfl rfl (Nat.le_of_ble_eq_true rfl) rfl ?_; refine hw_seq ?_; refine hw_region (E := TryzE) Tryzok ?_; refine rg_quiet true rfl rfl rfl rfl rfl trivial ?_; refine rg_nil ?_
  show HW _ _ _ _ _
  refine hw_join (ι := Bool) (fun c => ⟨[(0, some (oneP (.sl n 1 c f)))], []⟩) (fun _ => True) ?_ fun c _ => ?_
  · rcases Nat.eq_zero_or_pos n with hz | h0
    · subst hz
      refine hw_exact' 0 rfl fun ad cap hcap => ?_
      refine hw_seq ?_; refine hw_region (E := TryzE) Tryzok ?_; (iterate 2 refine rg_quiet true rfl rfl rfl rfl rfl trivial ?_); refine rg_nil ?_; show HW _ _ _ _ _; refine hw_cond ad.isNone rfl (fun hc => ?_) (fun hc => ?_)
      · refine hw_seq ?_
        refine hw_region (E := TryzE) Tryzok ?_; refine rg_quiet true rfl rfl rfl rfl rfl trivial ?_; refine rg_nil ?_; show HW _ _ _ _ _
        refine hw_adopt 2 0 true 1 30 f (by decide) rfl (CoP.sl rfl (.inr rfl) (fun h => h) fun i j hi _ => absurd hi (Nat.not_lt_zero i)) (.inr rfl) rfl ?_; refine hw_ret ?_; refine ⟨.inr rfl, ?_⟩
        exact ⟨_, _, rfl, trivial, CoR.refl _, ⟨⟨_, rfl, CoO.refl _⟩, trivial⟩⟩
      · refine hw_skip ?_
        exact ⟨false, trivial, ⟨⟨_, rfl, CoP.raw_sl hcap⟩, trivial⟩, trivial⟩
    · refine hw_seq ?_
      refine hw_region (E := TryzE) Tryzok ?_; refine rg_quiet true rfl rfl rfl rfl rfl trivial ?_; refine rg_quiet true rfl rfl rfl rfl rfl h0 ?_; refine rg_nil ?_; show HW _ _ _ _ _
      refine hw_cond false rfl (fun hc => by cases hc) (fun hc => ?_); refine hw_skip ?_
      exact ⟨c, trivial, ⟨⟨_, rfl, CoR.refl _⟩, trivial⟩, trivial⟩
  · refine hw_seq ?_
    refine hw_region (E := TryzE) Tryzok ?_; refine rg_make 0 rfl rfl rfl rfl rfl rfl trivial ?_; refine rg_quiet true rfl rfl rfl rfl rfl trivial ?_
    refine rg_app 0 true rfl rfl rfl rfl rfl rfl ⟨trivial, rfl, rfl, rfl, .inl rfl, by show 0 + n ≤ 9223372036854775807; omega, by show (0 + n) * 4 ≤ 140737488355328; omega, fun _ => .inl rfl⟩ ?_
    refine rg_quiet true rfl rfl rfl rfl rfl trivial ?_; refine rg_nil ?_; show HW _ _ _ _ _; refine hw_ret ?_; refine ⟨.inr rfl, ?_⟩
    refine ⟨_, _, rfl, trivial, CoR.of_eq (by show HR.v (.one (.ref 0 (0 + n))) = _; rw [Nat.zero_add]), ⟨⟨_, rfl, ?_⟩, trivial⟩⟩
    exact ⟨fun h => h, rfl, rfl, (Nat.zero_add n).symm, fun i j _ _ => CoP.of_eq (by simp [appF])⟩
theorem cloneP75 (n : Nat) (c : Bool) (f : Nat → Nat → PV) (hn : n ≤ 35184372088832) : HPure Tryz.prog 27 [.one (.sl n 1 c f)] (.v (.one (.sl n 1 false f))) :=
  HFun.pure (args := [.one (.sl n 1 c f)]) (l := [.one (.ref 0 n)]) (clone75 n c f hn) rfl ⟨rfl, trivial⟩
theorem good19 : goodFn Tryz.prog 19 := ⟨Tryz.f19, Tryz.func19, by kernel_rfl, by kernel_rfl⟩
theorem cIxFF (l : List Fd) (g k : Nat) (caps : Nat → PV) (V : Fd → Bool) (hg : goodFn Tryz.prog g) (hV : ∀ x, HPure Tryz.prog g (x.pc :: capsOf caps k 0) (prOf [pB (V x)])) : HPure Tryz.prog 19 [pP (fdl l), pP (.fn g k caps)] (prOf [pI (idx V l)]) := by
  refine hpure_of (nt := 19) Tryzok Tryz.func19 rfl rfl (Nat.le_of_ble_eq_true rfl) ?_; refine hw_seq ?_
  refine hw_bt 0 rfl fun hn => ?_
  refine hw_region (E := TryzE) Tryzok ?_; refine rq rfl rfl rfl rfl rfl ?_; refine rg_nil ?_; show HW _ _ _ _ _; refine hw_joinK (ι := Unit) ⟨[], []⟩ ⟨trivial, trivial⟩ (fun _i => ⟨[], []⟩) (fun _i => idx V l = -1) ?_ ?_
  · skip
    refine hw_seq ?_; refine hw_region (E := TryzE) Tryzok ?_; (iterate 3 refine rq rfl rfl rfl rfl rfl ?_); refine rg_nil ?_; show HW _ _ _ _ _; refine hw_block ?_
    refine hw_loopK (ι := Nat) ⟨[(0, some _), (1, some _), (7, some _)], []⟩ ⟨⟨⟨_, rfl, CoR.refl _⟩, ⟨_, rfl, CoR.refl _⟩, ⟨_, rfl, CoR.refl _⟩, trivial⟩, trivial⟩ (fun i => ⟨[(8, some (vI i))], []⟩) (fun i => i ≤ l.length ∧ (∀ j, j < i → V (l.getD j default) = false)) (fun i => l.length - i) (0) (⟨Nat.zero_le _, all_zero⟩) ⟨⟨⟨_, rfl, (by first | exact CoR.refl _ | exact coi (by omega) | exact cob (by simp_all))⟩, trivial⟩, trivial⟩ ?_
    rintro i ⟨hi, hI⟩
    refine hw_seq ?_; refine hw_region (E := TryzE) Tryzok ?_; refine rq rfl rfl rfl rfl rfl ?_; refine rg_nil ?_; show HW _ _ _ _ _; refine hw_seq ?_; refine hw_cond _ rfl (fun r0 => ?_) (fun r0 => ?_)
    · skip
      have h0 := r0
      have h0 := of_decide_eq_true h0
      try simp only [Int.toNat_natCast] at h0
      refine hw_skip ?_; show HW _ _ _ _ _; refine hw_seq ?_; refine hw_block ?_; refine hw_seq ?_; refine hw_region (E := TryzE) Tryzok ?_; (iterate 2 refine rq rfl rfl rfl rfl rfl ?_); refine rg_nil ?_; show HW _ _ _ _ _
      refine hw_seq ?_; refine hw_region (E := TryzE) Tryzok ?_; (iterate 5 refine rq rfl rfl rfl rfl rfl ?_); refine rc rfl rfl rfl rfl rfl rfl hg (hV (l.getD i default)) (CoL.refl _) rfl rfl ?_; refine rg_nil ?_; show HW _ _ _ _ _
      refine hw_cond _ rfl (fun r1 => ?_) (fun r1 => ?_)
      · skip
        have h1 := r1
        refine hw_seq ?_; refine hw_region (E := TryzE) Tryzok ?_; (iterate 2 refine rq rfl rfl rfl rfl rfl ?_); refine rg_nil ?_; show HW _ _ _ _ _; refine hw_ret ?_; refine ⟨.inr rfl, ?_⟩
        exact ⟨_, _, _, _, rfl, (by (repeat' apply And.intro) <;> first | trivial | exact Nat.le_of_ble_eq_true rfl | rfl), rfl, (by (repeat' apply And.intro) <;> first | trivial | exact Nat.le_of_ble_eq_true rfl | rfl), ⟨cci (idx_t (i := i) (by omega) hI h1).symm, trivial⟩⟩
      · skip
        have h1 := r1
        refine hw_skip ?_; show HW _ _ _ _ _; refine hw_region (E := TryzE) Tryzok ?_; (iterate 2 refine rq rfl rfl rfl rfl rfl ?_); refine rg_nil ?_; refine ⟨i + 1, ?_, ?_, ?_⟩
        · exact ⟨by show i + 1 ≤ _; omega, all_succ hI (h1)⟩
        · first | omega | (dsimp only; omega)
        · exact ⟨⟨⟨_, rfl, (by first | exact CoR.refl _ | exact coi (by omega) | exact cob (by simp_all))⟩, ⟨_, rfl, CoR.refl _⟩, ⟨_, rfl, CoR.refl _⟩, ⟨_, rfl, CoR.refl _⟩, trivial⟩, trivial⟩
    · skip
      have h0 := r0
      have h0 := of_decide_eq_false h0
      try simp only [Int.toNat_natCast] at h0
      refine hw_exit ?_; refine ⟨(), ?_, ?_⟩
      · exact idx_f fun j hj => hI j (by omega)
      · exact ⟨trivial, trivial⟩
  · rintro _ hj
    refine hw_seq ?_; refine hw_region (E := TryzE) Tryzok ?_; refine rq rfl rfl rfl rfl rfl ?_; refine rg_nil ?_; show HW _ _ _ _ _; refine hw_ret ?_; refine ⟨.inr rfl, ?_⟩
    exact ⟨_, _, _, _, rfl, (by (repeat' apply And.intro) <;> first | trivial | exact Nat.le_of_ble_eq_true rfl | rfl), rfl, (by (repeat' apply And.intro) <;> first | trivial | exact Nat.le_of_ble_eq_true rfl | rfl), ⟨cci hj.symm, trivial⟩⟩
theorem good62 : goodFn Tryz.prog 62 := ⟨Tryz.f62, Tryz.func62, by kernel_rfl, by kernel_rfl⟩
theorem cIxFS (l : List AS) (g k : Nat) (caps : Nat → PV) (V : AS → Bool) (hg : goodFn Tryz.prog g) (hV : ∀ x, HPure Tryz.prog g (pA x :: capsOf caps k 0) (prOf [pB (V x)])) : HPure Tryz.prog 62 [pP (asl l), pP (.fn g k caps)] (prOf [pI (idx V l)]) := by
  refine hpure_of (nt := 19) Tryzok Tryz.func62 rfl rfl (Nat.le_of_ble_eq_true rfl) ?_; refine hw_seq ?_
  refine hw_bt 0 rfl fun hn => ?_
  refine hw_region (E := TryzE) Tryzok ?_; refine rq rfl rfl rfl rfl rfl ?_; refine rg_nil ?_; show HW _ _ _ _ _; refine hw_joinK (ι := Unit) ⟨[], []⟩ ⟨trivial, trivial⟩ (fun _i => ⟨[], []⟩) (fun _i => idx V l = -1) ?_ ?_
  · skip
    refine hw_seq ?_; refine hw_region (E := TryzE) Tryzok ?_; (iterate 3 refine rq rfl rfl rfl rfl rfl ?_); refine rg_nil ?_; show HW _ _ _ _ _; refine hw_block ?_
    refine hw_loopK (ι := Nat) ⟨[(0, some _), (1, some _), (7, some _)], []⟩ ⟨⟨⟨_, rfl, CoR.refl _⟩, ⟨_, rfl, CoR.refl _⟩, ⟨_, rfl, CoR.refl _⟩, trivial⟩, trivial⟩ (fun i => ⟨[(8, some (vI i))], []⟩) (fun i => i ≤ l.length ∧ (∀ j, j < i → V (l.getD j default) = false)) (fun i => l.length - i) (0) (⟨Nat.zero_le _, all_zero⟩) ⟨⟨⟨_, rfl, (by first | exact CoR.refl _ | exact coi (by omega) | exact cob (by simp_all))⟩, trivial⟩, trivial⟩ ?_
    rintro i ⟨hi, hI⟩
    refine hw_seq ?_; refine hw_region (E := TryzE) Tryzok ?_; refine rq rfl rfl rfl rfl rfl ?_; refine rg_nil ?_; show HW _ _ _ _ _; refine hw_seq ?_; refine hw_cond _ rfl (fun r0 => ?_) (fun r0 => ?_)
    · skip
      have h0 := r0
      have h0 := of_decide_eq_true h0
      try simp only [Int.toNat_natCast] at h0
      refine hw_skip ?_; show HW _ _ _ _ _; refine hw_seq ?_; refine hw_block ?_; refine hw_seq ?_; refine hw_region (E := TryzE) Tryzok ?_; (iterate 2 refine rq rfl rfl rfl rfl rfl ?_); refine rg_nil ?_; show HW _ _ _ _ _
      refine hw_seq ?_; refine hw_region (E := TryzE) Tryzok ?_; (iterate 5 refine rq rfl rfl rfl rfl rfl ?_); refine rc rfl rfl rfl rfl rfl rfl hg (hV (l.getD i default)) (CoL.refl _) rfl rfl ?_; refine rg_nil ?_; show HW _ _ _ _ _
      refine hw_cond _ rfl (fun r1 => ?_) (fun r1 => ?_)
      · skip
        have h1 := r1
        refine hw_seq ?_; refine hw_region (E := TryzE) Tryzok ?_; (iterate 2 refine rq rfl rfl rfl rfl rfl ?_); refine rg_nil ?_; show HW _ _ _ _ _; refine hw_ret ?_; refine ⟨.inr rfl, ?_⟩
        exact ⟨_, _, _, _, rfl, (by (repeat' apply And.intro) <;> first | trivial | exact Nat.le_of_ble_eq_true rfl | rfl), rfl, (by (repeat' apply And.intro) <;> first | trivial | exact Nat.le_of_ble_eq_true rfl | rfl), ⟨cci (idx_t (i := i) (by omega) hI h1).symm, trivial⟩⟩
      · skip
        have h1 := r1
        refine hw_skip ?_; show HW _ _ _ _ _; refine hw_region (E := TryzE) Tryzok ?_; (iterate 2 refine rq rfl rfl rfl rfl rfl ?_); refine rg_nil ?_; refine ⟨i + 1, ?_, ?_, ?_⟩
        · exact ⟨by show i + 1 ≤ _; omega, all_succ hI (h1)⟩
        · first | omega | (dsimp only; omega)
        · exact ⟨⟨⟨_, rfl, (by first | exact CoR.refl _ | exact coi (by omega) | exact cob (by simp_all))⟩, ⟨_, rfl, CoR.refl _⟩, ⟨_, rfl, CoR.refl _⟩, ⟨_, rfl, CoR.refl _⟩, trivial⟩, trivial⟩
    · skip
      have h0 := r0
      have h0 := of_decide_eq_false h0
      try simp only [Int.toNat_natCast] at h0
      refine hw_exit ?_; refine ⟨(), ?_, ?_⟩
      · exact idx_f fun j hj => hI j (by omega)
      · exact ⟨trivial, trivial⟩
  · rintro _ hj
    refine hw_seq ?_; refine hw_region (E := TryzE) Tryzok ?_; refine rq rfl rfl rfl rfl rfl ?_; refine rg_nil ?_; show HW _ _ _ _ _; refine hw_ret ?_; refine ⟨.inr rfl, ?_⟩
    exact ⟨_, _, _, _, rfl, (by (repeat' apply And.intro) <;> first | trivial | exact Nat.le_of_ble_eq_true rfl | rfl), rfl, (by (repeat' apply And.intro) <;> first | trivial | exact Nat.le_of_ble_eq_true rfl | rfl), ⟨cci hj.symm, trivial⟩⟩
theorem good59 : goodFn Tryz.prog 59 := ⟨Tryz.f59, Tryz.func59, by kernel_rfl, by kernel_rfl⟩
theorem cCoFS (l : List AS) (g k : Nat) (caps : Nat → PV) (V : AS → Bool) (hg : goodFn Tryz.prog g) (hV : ∀ x, HPure Tryz.prog g (pA x :: capsOf caps k 0) (prOf [pB (V x)])) : HPure Tryz.prog 59 [pP (asl l), pP (.fn g k caps)] (prOf [pB (l.any V)]) := by
  refine hpure_of (nt := 9) Tryzok Tryz.func59 rfl rfl (Nat.le_of_ble_eq_true rfl) ?_; refine hw_seq ?_; refine hw_region (E := TryzE) Tryzok ?_; refine rq rfl rfl rfl rfl rfl ?_; refine rg_nil ?_; show HW _ _ _ _ _
  refine hw_seq ?_; refine hw_region (E := TryzE) Tryzok ?_; (iterate 2 refine rq rfl rfl rfl rfl rfl ?_); refine rc rfl rfl rfl rfl rfl rfl good62 (cIxFS l g k caps V hg hV) (CoL.refl _) rfl rfl ?_
  (iterate 2 refine rq rfl rfl rfl rfl rfl ?_); refine rg_nil ?_; show HW _ _ _ _ _; refine hw_ret ?_; refine ⟨.inr rfl, ?_⟩
  exact ⟨_, _, _, _, rfl, (by (repeat' apply And.intro) <;> first | trivial | exact Nat.le_of_ble_eq_true rfl | rfl), rfl, (by (repeat' apply And.intro) <;> first | trivial | exact Nat.le_of_ble_eq_true rfl | rfl), ⟨ccb idx_ge, trivial⟩⟩
theorem good28 : goodFn Tryz.prog 28 := ⟨Tryz.f28, Tryz.func28, by kernel_rfl, by kernel_rfl⟩
theorem cIxS (l : List AS) (s : AS) : HPure Tryz.prog 28 [pP (asl l), pA s] (prOf [pI (idx (fun x => decide (x = s)) l)]) := by
  refine hpure_of (nt := 19) Tryzok Tryz.func28 rfl rfl (Nat.le_of_ble_eq_true rfl) ?_; refine hw_seq ?_
  refine hw_bt 0 rfl fun hn => ?_
  refine hw_region (E := TryzE) Tryzok ?_; refine rq rfl rfl rfl rfl rfl ?_; refine rg_nil ?_; show HW _ _ _ _ _
  refine hw_joinK (ι := Unit) ⟨[], []⟩ ⟨trivial, trivial⟩ (fun _i => ⟨[], []⟩) (fun _i => idx (fun x => decide (x = s)) l = -1) ?_ ?_
  · skip
    refine hw_seq ?_; refine hw_region (E := TryzE) Tryzok ?_; (iterate 3 refine rq rfl rfl rfl rfl rfl ?_); refine rg_nil ?_; show HW _ _ _ _ _; refine hw_block ?_
    refine hw_loopK (ι := Nat) ⟨[(0, some _), (1, some _), (7, some _)], []⟩ ⟨⟨⟨_, rfl, CoR.refl _⟩, ⟨_, rfl, CoR.refl _⟩, ⟨_, rfl, CoR.refl _⟩, trivial⟩, trivial⟩ (fun i => ⟨[(8, some (vI i))], []⟩) (fun i => i ≤ l.length ∧ (∀ j, j < i → decide (l.getD j default = s) = false)) (fun i => l.length - i) (0) (⟨Nat.zero_le _, all_zero⟩) ⟨⟨⟨_, rfl, (by first | exact CoR.refl _ | exact coi (by omega) | exact cob (by simp_all))⟩, trivial⟩, trivial⟩ ?_
    rintro i ⟨hi, hI⟩
    refine hw_seq ?_; refine hw_region (E := TryzE) Tryzok ?_; refine rq rfl rfl rfl rfl rfl ?_; refine rg_nil ?_; show HW _ _ _ _ _; refine hw_seq ?_; refine hw_cond _ rfl (fun r0 => ?_) (fun r0 => ?_)
    · skip
      have h0 := r0
      have h0 := of_decide_eq_true h0
      try simp only [Int.toNat_natCast] at h0
      refine hw_skip ?_; show HW _ _ _ _ _; refine hw_seq ?_; refine hw_block ?_; refine hw_seq ?_; refine hw_region (E := TryzE) Tryzok ?_; (iterate 2 refine rq rfl rfl rfl rfl rfl ?_); refine rg_nil ?_; show HW _ _ _ _ _
      refine hw_seq ?_; refine hw_region (E := TryzE) Tryzok ?_; (iterate 6 refine rq rfl rfl rfl rfl rfl ?_); refine rg_nil ?_; show HW _ _ _ _ _; refine hw_cond _ rfl (fun r1 => ?_) (fun r1 => ?_)
      · skip
        have h1 := r1
        have h1 := of_decide_eq_true h1
        try simp only [Int.toNat_natCast] at h1
        refine hw_seq ?_; refine hw_region (E := TryzE) Tryzok ?_; (iterate 2 refine rq rfl rfl rfl rfl rfl ?_); refine rg_nil ?_; show HW _ _ _ _ _; refine hw_ret ?_; refine ⟨.inr rfl, ?_⟩
        exact ⟨_, _, _, _, rfl, (by (repeat' apply And.intro) <;> first | trivial | exact Nat.le_of_ble_eq_true rfl | rfl), rfl, (by (repeat' apply And.intro) <;> first | trivial | exact Nat.le_of_ble_eq_true rfl | rfl), ⟨cci (idx_t (p := fun x => decide (x = s)) (i := i) (by omega) hI (decide_eq_true (asI_inj.1 h1).symm)).symm, trivial⟩⟩
      · skip
        have h1 := r1
        have h1 := of_decide_eq_false h1
        try simp only [Int.toNat_natCast] at h1
        refine hw_skip ?_; show HW _ _ _ _ _; refine hw_region (E := TryzE) Tryzok ?_; (iterate 2 refine rq rfl rfl rfl rfl rfl ?_); refine rg_nil ?_; refine ⟨i + 1, ?_, ?_, ?_⟩
        · exact ⟨by show i + 1 ≤ _; omega, all_succ hI (decide_eq_false fun e => h1 (congrArg asI e.symm))⟩
        · first | omega | (dsimp only; omega)
        · exact ⟨⟨⟨_, rfl, (by first | exact CoR.refl _ | exact coi (by omega) | exact cob (by simp_all))⟩, ⟨_, rfl, CoR.refl _⟩, ⟨_, rfl, CoR.refl _⟩, ⟨_, rfl, CoR.refl _⟩, trivial⟩, trivial⟩
    · skip
      have h0 := r0
      have h0 := of_decide_eq_false h0
      try simp only [Int.toNat_natCast] at h0
      refine hw_exit ?_; refine ⟨(), ?_, ?_⟩
      · exact idx_f (p := fun x => decide (x = s)) fun j hj => hI j (by omega)
      · exact ⟨trivial, trivial⟩
  · rintro _ hj
    refine hw_seq ?_; refine hw_region (E := TryzE) Tryzok ?_; refine rq rfl rfl rfl rfl rfl ?_; refine rg_nil ?_; show HW _ _ _ _ _; refine hw_ret ?_; refine ⟨.inr rfl, ?_⟩
    exact ⟨_, _, _, _, rfl, (by (repeat' apply And.intro) <;> first | trivial | exact Nat.le_of_ble_eq_true rfl | rfl), rfl, (by (repeat' apply And.intro) <;> first | trivial | exact Nat.le_of_ble_eq_true rfl | rfl), ⟨cci hj.symm, trivial⟩⟩
theorem good98 : goodFn Tryz.prog 98 := ⟨Tryz.f98, Tryz.func98, by kernel_rfl, by kernel_rfl⟩
theorem cIxF (l : List Fd) (s : Fd) : HPure Tryz.prog 98 [pP (fdl l), s.pc] (prOf [pI (idx (fun x => decide (x = s)) l)]) := by
  refine hpure_of (nt := 19) Tryzok Tryz.func98 rfl rfl (Nat.le_of_ble_eq_true rfl) ?_; refine hw_seq ?_
  refine hw_bt 0 rfl fun hn => ?_
  refine hw_region (E := TryzE) Tryzok ?_; refine rm 0 rfl rfl rfl rfl rfl rfl ?_; refine rq rfl rfl rfl rfl rfl ?_; refine rg_nil ?_; show HW _ _ _ _ _
  refine hw_joinK (ι := Unit) ⟨[], []⟩ ⟨trivial, trivial⟩ (fun _i => ⟨[], []⟩) (fun _i => idx (fun x => decide (x = s)) l = -1) ?_ ?_
  · skip
    refine hw_seq ?_; refine hw_region (E := TryzE) Tryzok ?_; (iterate 3 refine rq rfl rfl rfl rfl rfl ?_); refine rg_nil ?_; show HW _ _ _ _ _; refine hw_block ?_
    refine hw_loopK (ι := Nat) ⟨[(0, some _), (3, some _), (7, some _)], [(0, some _)]⟩ ⟨⟨⟨_, rfl, CoR.refl _⟩, ⟨_, rfl, CoR.refl _⟩, ⟨_, rfl, CoR.refl _⟩, trivial⟩, ⟨⟨_, rfl, CoO.refl _⟩, trivial⟩⟩ (fun i => ⟨[(8, some (vI i))], []⟩) (fun i => i ≤ l.length ∧ (∀ j, j < i → decide (l.getD j default = s) = false)) (fun i => l.length - i) (0) (⟨Nat.zero_le _, all_zero⟩) ⟨⟨⟨_, rfl, (by first | exact CoR.refl _ | exact coi (by omega) | exact cob (by simp_all))⟩, trivial⟩, trivial⟩ ?_
    rintro i ⟨hi, hI⟩
    refine hw_seq ?_; refine hw_region (E := TryzE) Tryzok ?_; refine rq rfl rfl rfl rfl rfl ?_; refine rg_nil ?_; show HW _ _ _ _ _; refine hw_seq ?_; refine hw_cond _ rfl (fun r0 => ?_) (fun r0 => ?_)
    · skip
      have h0 := r0
      have h0 := of_decide_eq_true h0
      try simp only [Int.toNat_natCast] at h0
      refine hw_skip ?_; show HW _ _ _ _ _; refine hw_seq ?_; refine hw_block ?_; refine hw_seq ?_; refine hw_region (E := TryzE) Tryzok ?_; (iterate 2 refine rq rfl rfl rfl rfl rfl ?_); refine rg_nil ?_; show HW _ _ _ _ _
      refine hw_seq ?_; refine hw_draw (E := TryzE) Tryzok Tryzmixed [0, 1, 2, 3, 4, 5] ?_; (iterate 6 refine rq rfl rfl rfl rfl rfl ?_); refine rg_nil ?_; refine ⟨by kernel_rfl, ?_⟩; show HW _ _ _ _ _
      refine hw_cond _ rfl (fun r1 => ?_) (fun r1 => ?_)
      · skip
        have h1 := r1
        refine hw_seq ?_; refine hw_region (E := TryzE) Tryzok ?_; (iterate 2 refine rq rfl rfl rfl rfl rfl ?_); refine rg_nil ?_; show HW _ _ _ _ _; refine hw_ret ?_; refine ⟨.inr rfl, ?_⟩
        exact ⟨_, _, _, _, rfl, (by (repeat' apply And.intro) <;> first | trivial | exact Nat.le_of_ble_eq_true rfl | rfl), rfl, (by (repeat' apply And.intro) <;> first | trivial | exact Nat.le_of_ble_eq_true rfl | rfl), ⟨cci (idx_t (p := fun x => decide (x = s)) (i := i) (by omega) hI (decide_eq_true (by simp_all [Fd.eq_iff, asI_inj]))).symm, trivial⟩⟩
      · skip
        have h1 := r1
        refine hw_skip ?_; show HW _ _ _ _ _; refine hw_region (E := TryzE) Tryzok ?_; (iterate 2 refine rq rfl rfl rfl rfl rfl ?_); refine rg_nil ?_; refine ⟨i + 1, ?_, ?_, ?_⟩
        · exact ⟨by show i + 1 ≤ _; omega, all_succ hI (decide_eq_false fun e => by subst e; simp_all)⟩
        · first | omega | (dsimp only; omega)
        · exact ⟨⟨⟨_, rfl, (by first | exact CoR.refl _ | exact coi (by omega) | exact cob (by simp_all))⟩, ⟨_, rfl, CoR.refl _⟩, ⟨_, rfl, CoR.refl _⟩, ⟨_, rfl, CoR.refl _⟩, trivial⟩, ⟨⟨_, rfl, CoO.refl _⟩, trivial⟩⟩
    · skip
      have h0 := r0
      have h0 := of_decide_eq_false h0
      try simp only [Int.toNat_natCast] at h0
      refine hw_exit ?_; refine ⟨(), ?_, ?_⟩
      · exact idx_f (p := fun x => decide (x = s)) fun j hj => hI j (by omega)
      · exact ⟨trivial, trivial⟩
  · rintro _ hj
    refine hw_seq ?_; refine hw_region (E := TryzE) Tryzok ?_; refine rq rfl rfl rfl rfl rfl ?_; refine rg_nil ?_; show HW _ _ _ _ _; refine hw_ret ?_; refine ⟨.inr rfl, ?_⟩
    exact ⟨_, _, _, _, rfl, (by (repeat' apply And.intro) <;> first | trivial | exact Nat.le_of_ble_eq_true rfl | rfl), rfl, (by (repeat' apply And.intro) <;> first | trivial | exact Nat.le_of_ble_eq_true rfl | rfl), ⟨cci hj.symm, trivial⟩⟩
theorem good89 : goodFn Tryz.prog 89 := ⟨Tryz.f89, Tryz.func89, by kernel_rfl, by kernel_rfl⟩
theorem cCoF (l : List Fd) (s : Fd) : HPure Tryz.prog 89 [pP (fdl l), s.pc] (prOf [pB (l.any fun x => decide (x = s))]) := by
  refine hpure_of (nt := 9) Tryzok Tryz.func89 rfl rfl (Nat.le_of_ble_eq_true rfl) ?_; refine hw_seq ?_; refine hw_region (E := TryzE) Tryzok ?_; refine rm 0 rfl rfl rfl rfl rfl rfl ?_; refine rq rfl rfl rfl rfl rfl ?_
  refine rg_nil ?_; show HW _ _ _ _ _; refine hw_seq ?_; refine hw_region (E := TryzE) Tryzok ?_; (iterate 2 refine rq rfl rfl rfl rfl rfl ?_); refine rc rfl rfl rfl rfl rfl rfl good98 (cIxF _ _) (CoL.refl _) rfl rfl ?_
  (iterate 2 refine rq rfl rfl rfl rfl rfl ?_); refine rg_nil ?_; show HW _ _ _ _ _; refine hw_ret ?_; refine ⟨.inr rfl, ?_⟩
  exact ⟨_, _, _, _, rfl, (by (repeat' apply And.intro) <;> first | trivial | exact Nat.le_of_ble_eq_true rfl | rfl), rfl, (by (repeat' apply And.intro) <;> first | trivial | exact Nat.le_of_ble_eq_true rfl | rfl), ⟨ccb idx_ge, trivial⟩⟩
theorem good32 : goodFn Tryz.prog 32 := ⟨Tryz.f32, Tryz.func32, by kernel_rfl, by kernel_rfl⟩
theorem cDelF (l : List AS) (g k : Nat) (caps : Nat → PV) (V : AS → Bool) (hg : goodFn Tryz.prog g) (hV : ∀ x, HPure Tryz.prog g (pA x :: capsOf caps k 0) (prOf [pB (V x)])) : HFun Tryz.prog 32 [.one (.ref 900 l.length), .one (.p (.fn g k caps))] [(900, .arr true 1 30 l.length (lf sC l))] (.v (.one (.p (asl (l.filter fun x => !V x))))) [] [] := by
  refine hfun_of (nt := 42) Tryzok Tryz.func32 rfl rfl (Nat.le_of_ble_eq_true rfl) rfl ?_; refine hw_seq ?_
  refine hw_ba 900 rfl fun hlen => ?_
  refine hw_region (E := TryzE) Tryzok ?_; refine rq rfl rfl rfl rfl rfl ?_; refine rg_nil ?_; show HW _ _ _ _ _; refine hw_seq ?_; refine hw_region (E := TryzE) Tryzok ?_; (iterate 2 refine rq rfl rfl rfl rfl rfl ?_)
  refine rc rfl rfl rfl rfl rfl rfl good62 (cIxFS l g k caps V hg hV) (CoL.refl _) rfl rfl ?_; refine rq rfl rfl rfl rfl rfl ?_; refine rg_nil ?_; show HW _ _ _ _ _; (iterate 2 refine hw_seq ?_)
  refine hw_region (E := TryzE) Tryzok ?_; (iterate 2 refine rq rfl rfl rfl rfl rfl ?_); refine rg_nil ?_; show HW _ _ _ _ _; refine hw_cond _ rfl (fun r0 => ?_) (fun r0 => ?_)
  · skip
    have h0 := r0
    have h0 := of_decide_eq_true h0
    try simp only [Int.toNat_natCast] at h0
    refine hw_seq ?_; refine hw_region (E := TryzE) Tryzok ?_; (iterate 2 refine rq rfl rfl rfl rfl rfl ?_); refine rg_nil ?_; refine hw_freeze 4 rfl rfl rfl ?_; show HW _ _ _ _ _; refine hw_ret ?_; refine ⟨.inr rfl, ?_⟩
    exact ⟨_, _, rfl, (by (repeat' apply And.intro) <;> first | trivial | exact Nat.le_of_ble_eq_true rfl), co_allF (idx_none (by assumption)), trivial⟩
  · skip
    have h0 := r0
    have h0 := of_decide_eq_false h0
    try simp only [Int.toNat_natCast] at h0
    obtain ⟨i0, hi0, hi1, hi2, hi3⟩ := idx_some h0
    refine hw_skip ?_; show HW _ _ _ _ _; (iterate 2 refine hw_seq ?_); refine hw_region (E := TryzE) Tryzok ?_; (iterate 3 refine rq rfl rfl rfl rfl rfl ?_); refine rg_nil ?_; show HW _ _ _ _ _; refine hw_block ?_
    refine hw_loopK (ι := Nat × Nat × List AS) ⟨[(0, some _), (1, some _)], []⟩ ⟨⟨⟨_, rfl, CoR.refl _⟩, ⟨_, rfl, CoR.refl _⟩, trivial⟩, trivial⟩ (fun x => ⟨[(5, some (vI x.1)), (6, some (vI x.2.1))], [(900, some (.arr true 1 30 l.length (lf sC x.2.2)))]⟩) (fun x => DfI V l x.1 x.2.1 x.2.2) (fun x => l.length - x.2.1) ((i0, i0 + 1, l)) (DfI.start hi1 hi2 hi3) ⟨⟨⟨_, rfl, (coi hi0)⟩, ⟨_, rfl, (coi (by dsimp only; omega))⟩, trivial⟩, ⟨⟨_, rfl, CoO.refl _⟩, trivial⟩⟩ ?_
    rintro x hC
    have hC0 := hC
    obtain ⟨hml, hkq, hql, _, _⟩ := hC0
    (iterate 2 refine hw_seq ?_); refine hw_region (E := TryzE) Tryzok ?_; (iterate 4 refine rq rfl rfl rfl rfl rfl ?_); refine rg_nil ?_; show HW _ _ _ _ _; refine hw_cond _ rfl (fun r1 => ?_) (fun r1 => ?_)
    · skip
      have h1 := r1
      have h1 := of_decide_eq_true h1
      try simp only [Int.toNat_natCast] at h1
      refine hw_skip ?_; show HW _ _ _ _ _; refine hw_seq ?_; refine hw_block ?_; refine hw_seq ?_; refine hw_region (E := TryzE) Tryzok ?_; (iterate 5 refine rq rfl rfl rfl rfl rfl ?_); refine rg_nil ?_; show HW _ _ _ _ _
      refine hw_seq ?_; refine hw_region (E := TryzE) Tryzok ?_; (iterate 2 refine rq rfl rfl rfl rfl rfl ?_); refine rc rfl rfl rfl rfl rfl rfl hg (hV (x.2.2.getD (x.2.1 : Int).toNat default)) (CoL.refl _) rfl rfl ?_
      refine rq rfl rfl rfl rfl rfl ?_; refine rg_nil ?_; show HW _ _ _ _ _; refine hw_cond _ rfl (fun r2 => ?_) (fun r2 => ?_)
      · skip
        have h2 := r2
        have h2 := not_t h2
        have hv := h2
        refine hw_seq ?_; refine hw_region (E := TryzE) Tryzok ?_; (iterate 4 refine rq rfl rfl rfl rfl rfl ?_); refine rs rfl rfl rfl rfl rfl ?_; refine rg_nil ?_; show HW _ _ _ _ _; refine hw_region (E := TryzE) Tryzok ?_
        (iterate 3 refine rq rfl rfl rfl rfl rfl ?_); refine rg_nil ?_; show HW _ _ _ _ _; refine hw_region (E := TryzE) Tryzok ?_; (iterate 3 refine rq rfl rfl rfl rfl rfl ?_); refine rg_nil ?_
        first | (refine ⟨(x.1 + 1, x.2.1 + 1, x.2.2.set x.1 (x.2.2.getD x.2.1 default)), ?_, ?_, ?_⟩
                 · exact hC.keep (by omega) (by simpa using hv)
                 · first | omega | (dsimp only; omega)
                 · exact ⟨⟨⟨_, rfl, (coi (by first | rfl | (dsimp only; omega)))⟩, ⟨_, rfl, (coi (by first | rfl | (dsimp only; omega)))⟩, ⟨_, rfl, CoR.refl _⟩, ⟨_, rfl, CoR.refl _⟩, trivial⟩, ⟨⟨_, rfl, (co_setE id hml.symm (by omega) (by omega) (by omega))⟩, trivial⟩⟩)
              | (refine ⟨(x.1, x.2.1 + 1, x.2.2), ?_, ?_, ?_⟩
                 · exact hC.skip (by omega) (by simpa using hv)
                 · first | omega | (dsimp only; omega)
                 · exact ⟨⟨⟨_, rfl, (coi (by first | rfl | (dsimp only; omega)))⟩, ⟨_, rfl, (coi (by first | rfl | (dsimp only; omega)))⟩, ⟨_, rfl, CoR.refl _⟩, ⟨_, rfl, CoR.refl _⟩, trivial⟩, ⟨⟨_, rfl, CoO.refl _⟩, trivial⟩⟩)
      · skip
        have h2 := r2
        have h2 := not_f h2
        have hv := h2
        refine hw_skip ?_; show HW _ _ _ _ _; refine hw_region (E := TryzE) Tryzok ?_; (iterate 3 refine rq rfl rfl rfl rfl rfl ?_); refine rg_nil ?_
        first | (refine ⟨(x.1 + 1, x.2.1 + 1, x.2.2.set x.1 (x.2.2.getD x.2.1 default)), ?_, ?_, ?_⟩
                 · exact hC.keep (by omega) (by simpa using hv)
                 · first | omega | (dsimp only; omega)
                 · exact ⟨⟨⟨_, rfl, (coi (by first | rfl | (dsimp only; omega)))⟩, ⟨_, rfl, (coi (by first | rfl | (dsimp only; omega)))⟩, ⟨_, rfl, CoR.refl _⟩, ⟨_, rfl, CoR.refl _⟩, trivial⟩, ⟨⟨_, rfl, (co_setE id hml.symm (by omega) (by omega) (by omega))⟩, trivial⟩⟩)
              | (refine ⟨(x.1, x.2.1 + 1, x.2.2), ?_, ?_, ?_⟩
                 · exact hC.skip (by omega) (by simpa using hv)
                 · first | omega | (dsimp only; omega)
                 · exact ⟨⟨⟨_, rfl, (coi (by first | rfl | (dsimp only; omega)))⟩, ⟨_, rfl, (coi (by first | rfl | (dsimp only; omega)))⟩, ⟨_, rfl, CoR.refl _⟩, ⟨_, rfl, CoR.refl _⟩, trivial⟩, ⟨⟨_, rfl, CoO.refl _⟩, trivial⟩⟩)
    · skip
      have h1 := r1
      have h1 := of_decide_eq_false h1
      try simp only [Int.toNat_natCast] at h1
      have hq := h1
      refine hw_exit ?_; show HW _ _ _ _ _; refine hw_seq ?_; refine hw_region (E := TryzE) Tryzok ?_; (iterate 3 refine rq rfl rfl rfl rfl rfl ?_); refine ra 0 true rfl rfl rfl rfl rfl rfl ?_; refine rg_nil ?_; show HW _ _ _ _ _
      refine hw_seq ?_; refine hw_region (E := TryzE) Tryzok ?_; (iterate 2 refine rq rfl rfl rfl rfl rfl ?_); refine rcut rfl rfl rfl rfl rfl ?_; refine rq rfl rfl rfl rfl rfl ?_; refine rg_nil ?_; show HW _ _ _ _ _
      refine hw_ret ?_; refine ⟨.inr rfl, ?_⟩
      exact ⟨_, _, rfl, (by (repeat' apply And.intro) <;> first | trivial | exact Nat.le_of_ble_eq_true rfl), co_cutF hC (by omega) (by simp [upTo]), trivial⟩
end Go.Hx
end
section
namespace Go.Hx
def hasI (s : AS) (i : Int) : Bool := decide (0 ≤ i ∧ i < 32) && s.getLsbD i.toNat
theorem hasI_nat {s : AS} {i : Nat} (h : i < 32) : hasI s i = s.getLsbD i := by
  unfold hasI
  rw [decide_eq_true (by omega)]
  simp
theorem has_v {s : AS} {i : Int} (h0 : 0 ≤ i) (h1 : i < 32) : decide (bitV .and .u32 ((asI s).fdiv (2 ^ (min i.toNat 32))) 1 = 1) = hasI s i := by
  unfold hasI
  rw [bShr, show (1 : Int) = asI 1 from rfl, bAnd, decide_eq_true (show 0 ≤ i ∧ i < 32 from ⟨h0, h1⟩), Bool.true_and]
  have e : asI (s >>> i.toNat &&& 1) = asI 1 ↔ s.getLsbD i.toNat = true := by
    rw [asI_inj]
    constructor
    · intro h
      have := congrArg (fun x : AS => x.getLsbD 0) h
      simpa using this
    · intro h
      apply BitVec.eq_of_getLsbD_eq
      intro k hk
      have h1 : (1 : AS).getLsbD k = decide (k = 0) := by have := bit_one 0 k hk; simpa using this
      rw [BitVec.getLsbD_and, BitVec.getLsbD_ushiftRight, h1]
      by_cases hk0 : k = 0
      · subst hk0; simp [h]
      · simp [hk0]
  cases hb : s.getLsbD i.toNat with
  | true => exact decide_eq_true (e.2 hb)
  | false => exact decide_eq_false fun h => by rw [e.1 h] at hb; cases hb
theorem hasI_f {s : AS} {i : Int} (h : ¬ (0 ≤ i ∧ i < 32)) : hasI s i = false := by
  unfold hasI
  rw [decide_eq_false h]
  rfl
theorem fullS_ofNat {n : Nat} (h : n ≤ 32) : fullS n = BitVec.ofNat 32 (2 ^ n - 1) := by
  apply BitVec.eq_of_getLsbD_eq
  intro k hk
  rw [fullS_bit n k hk, BitVec.getLsbD_ofNat, Nat.testBit_two_pow_sub_one]
  simp [hk]
theorem fullS_toNat {n : Nat} (h : n ≤ 32) : (fullS n).toNat = 2 ^ n - 1 := by
  have h2 : 2 ^ n ≤ 2 ^ 32 := Nat.pow_le_pow_right (by omega) h
  have h3 : 0 < 2 ^ n := Nat.two_pow_pos n
  rw [fullS_ofNat h, BitVec.toNat_ofNat, Nat.mod_eq_of_lt (by omega)]
theorem vErr_ok {n : Int} {l : List Fd} (h : vErr n l = 0) : 0 ≤ n ∧ n ≤ 16 ∧ l.length ≤ 64 ∧ l.all (inU n) = true := by
  unfold vErr at h
  split at h
  · cases h
  · split at h
    · cases h
    · split at h
      · rename_i h1 h2 h3
        exact ⟨by omega, by omega, by omega, h3⟩
      · cases h
theorem full_v {n : Int} (h0 : 0 ≤ n) (h1 : n ≤ 16) : IntKind.wrap .u32 (1 * 2 ^ (min n.toNat 32)) - 1 = asI (fullI n) := by
  have h2 : 2 ^ n.toNat ≤ 2 ^ 16 := Nat.pow_le_pow_right (by omega) (by omega)
  have h3 : 0 < 2 ^ n.toNat := Nat.two_pow_pos _
  rw [show IntKind.wrap .u32 (1 * 2 ^ (min n.toNat 32)) = asI ((1 : AS) <<< n.toNat) from bShl 1 n.toNat]
  unfold fullI asI
  rw [Nat.min_eq_left (by omega), fullS_toNat (by omega), BitVec.toNat_shiftLeft, Nat.shiftLeft_eq]
  rw [show (1 : AS).toNat = 1 from rfl, Nat.one_mul, Nat.mod_eq_of_lt (by omega)]
  omega
theorem shr_v {s : AS} {n : Int} (h0 : 0 ≤ n) (h1 : n ≤ 16) : (asI s).fdiv (2 ^ (min n.toNat 32)) = 0 ↔ sub s (fullI n) := by
  rw [bShr, show (0 : Int) = asI 0 from rfl, asI_inj]
  unfold fullI
  rw [Nat.min_eq_left (by omega)]
  exact (within_iff (by omega)).symm
theorem full_pre {n : Int} (h0 : 0 ≤ n) (h1 : n ≤ 16) : 0 ≤ IntKind.wrap .u32 (1 * 2 ^ (min n.toNat 32)) - 1 := by rw [full_v h0 h1]; exact asI_nn _
theorem full_pre2 {n : Int} (h0 : 0 ≤ n) (h1 : n ≤ 16) : IntKind.wrap .u32 (1 * 2 ^ (min n.toNat 32)) - 1 ≤ 4294967295 := by rw [full_v h0 h1]; have := asI_lt (fullI n); omega
theorem asl_same {a b : List AS} (h : a.length = b.length) (hI : ∀ j, j < a.length → decide (a.getD j default = b.getD j default) = true) : a = b := list_eq h fun j hj => of_decide_eq_true (hI j hj)
def skey (n : Int) (l : List Fd) (s : AS) : Bool := decide (vErr n l = 0 ∧ sub s (fullI n) ∧ clo l s = fullI n)
section
variable {n : Int} {l : List Fd} {s : AS}
theorem sk_f1 (h : ¬ vErr n l = 0) : skey n l s = false := decide_eq_false fun e => h e.1
theorem sk_t (h : vErr n l = 0) (h2 : (asI s).fdiv (2 ^ (min n.toNat 32)) = 0) : decide (asI (clo l s) = asI (fullI n)) = skey n l s := by
  have hv := vErr_ok h
  have h3 := (shr_v hv.1 hv.2.1).1 h2
  exact decide_eq_decide.2 ⟨fun e => ⟨h, h3, asI_inj.1 e⟩, fun e => congrArg asI e.2.2⟩
theorem sk_f2 (h : vErr n l = 0) (h2 : ¬ (asI s).fdiv (2 ^ (min n.toNat 32)) = 0) : skey n l s = false := by
  have hv := vErr_ok h
  exact decide_eq_false fun e => h2 ((shr_v hv.1 hv.2.1).2 e.2.1)
theorem sk_g (h2 : ¬ bitV .andNot .u32 (asI s) (asI (fullI n)) = 0) : skey n l s = false := decide_eq_false fun e => h2 (sub_iff_not.2 e.2.1)
theorem sk_u (h : vErr n l = 0) (h2 : sub s (fullI n)) : decide (asI (clo l s) = asI (fullI n)) = skey n l s := decide_eq_decide.2 ⟨fun e => ⟨h, h2, asI_inj.1 e⟩, fun e => congrArg asI e.2.2⟩
end
def errS (n : Int) (l : List Fd) (m : Int) : Int := if vErr n l = 0 then (if m < n then 3 else 0) else vErr n l
structure Dp where
  l : BitVec 8
  r : BitVec 8
deriving Inhabited
def Dp.c (d : Dp) : Nat → PV
  | 0 => .raw (.int .u8 (d.l.toNat : Int))
  | 1 => .raw (.int .u8 (d.r.toNat : Int))
  | _ => .any
abbrev dpl (l : List Dp) : PV := psl 2 Dp.c l
def Dp.fd (n : Int) (d : Dp) : Fd := ⟨d.l.setWidth 32 &&& fullI n, d.r.setWidth 32 &&& fullI n⟩
theorem u8_and (b : BitVec 8) (t : AS) : bitV .and .u32 (b.toNat : Int) (asI t) = asI (b.setWidth 32 &&& t) := by
  have h := b.isLt
  have e : asI (b.setWidth 32) = (b.toNat : Int) := by
    unfold asI
    rw [BitVec.toNat_setWidth, Nat.mod_eq_of_lt (by omega)]
  rw [← bAnd, e]
end Go.Hx
end
