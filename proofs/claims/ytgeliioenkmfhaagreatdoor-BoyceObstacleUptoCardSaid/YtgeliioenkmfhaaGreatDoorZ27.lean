/- A part of the proof: lemmas for the theorem of this claim, merged by a program of ours out of V17. -/
import Derived.Test.YtgeliioenkmfhaaGreatDoorZ26
set_option linter.all false
section
namespace Go.Hx
open Go.Proofs
set_option maxRecDepth 100000
theorem good92 : goodFn Tryz.prog 92 := ⟨Tryz.f92, Tryz.func92, by kernel_rfl, by kernel_rfl⟩
theorem cMore (l : List Fd) (p z : AS) : HPure Tryz.prog 92 [pP (fdl l), pA p, pA z] (prOf [pA (moreS l p z)]) := by
  refine hpure_of (nt := 16) Tryzok Tryz.func92 rfl rfl (Nat.le_of_ble_eq_true rfl) ?_; refine hw_seq ?_; refine hw_region (E := TryzE) Tryzok ?_; refine rq rfl rfl rfl rfl rfl ?_; refine rg_nil ?_; show HW _ _ _ _ _
  refine hw_seq ?_; refine hw_region (E := TryzE) Tryzok ?_; (iterate 5 refine rq rfl rfl rfl rfl rfl ?_); refine rc rfl rfl rfl rfl rfl rfl good64 (cClose l (z &&& p)) (⟨CoC.refl _, cci (bAnd _ _), trivial⟩) rfl rfl ?_
  (iterate 4 refine rq rfl rfl rfl rfl rfl ?_); refine rg_nil ?_; show HW _ _ _ _ _; refine hw_ret ?_; refine ⟨.inr rfl, ?_⟩
  exact ⟨_, _, _, _, rfl, (by (repeat' apply And.intro) <;> first | trivial | exact Nat.le_of_ble_eq_true rfl | rfl), rfl, (by (repeat' apply And.intro) <;> first | trivial | exact Nat.le_of_ble_eq_true rfl | rfl), ⟨cci (more_v l p z), trivial⟩⟩
theorem good91 : goodFn Tryz.prog 91 := ⟨Tryz.f91, Tryz.func91, by kernel_rfl, by kernel_rfl⟩
theorem cFol1 (x : AS) (l : List Fd) (z : AS) : HFun Tryz.prog 91 [.one (.p (asC x)), .one (.p (bx (fdl l))), .one (.ptr 1000 0)] [(1000, .box [.p (asC z)])] (.v (.one (.p (.raw (.bool (moreB l z x)))))) [(1000, .box [.p (asC z)])] [1000] := by
  refine hfun_of (nt := 10) Tryzok Tryz.func91 rfl rfl (Nat.le_of_ble_eq_true rfl) rfl ?_; refine hw_seq ?_; refine hw_region (E := TryzE) Tryzok ?_; refine rq rfl rfl rfl rfl rfl ?_; refine rg_nil ?_; show HW _ _ _ _ _
  refine hw_seq ?_; refine hw_region (E := TryzE) Tryzok ?_; (iterate 3 refine rq rfl rfl rfl rfl rfl ?_); refine rc rfl rfl rfl rfl rfl rfl good92 (cMore l x z) (CoL.refl _) rfl rfl ?_; (iterate 2 refine rq rfl rfl rfl rfl rfl ?_)
  refine rg_nil ?_; show HW _ _ _ _ _; refine hw_ret ?_; refine ⟨.inr rfl, ?_⟩
  exact ⟨_, _, rfl, (by (repeat' apply And.intro) <;> first | trivial | exact Nat.le_of_ble_eq_true rfl), cob moreB_v, ⟨⟨_, rfl, CoO.refl _⟩, trivial⟩⟩
theorem cIxH (ps : List AS) (l : List Fd) (z : AS) : HFun Tryz.prog 62 [.one (.p (asl ps)), .one (.clo 91 2 fun i => [HV.p (bx (fdl l)), .ptr 1000 0].getD i (.p .any))] [(1000, .box [.p (asC z)])] (.v (.one (.p (.raw (.int .i64 (idx (moreB l z) ps)))))) [(1000, .box [.p (asC z)])] [1000] := by
  refine hfun_of (nt := 19) Tryzok Tryz.func62 rfl rfl (Nat.le_of_ble_eq_true rfl) rfl ?_; refine hw_seq ?_
  refine hw_bt 0 rfl fun hn => ?_
  refine hw_region (E := TryzE) Tryzok ?_; refine rq rfl rfl rfl rfl rfl ?_; refine rg_nil ?_; show HW _ _ _ _ _
  refine hw_joinK (ι := Unit) ⟨[], [(1000, some _)]⟩ ⟨trivial, ⟨⟨_, rfl, CoO.refl _⟩, trivial⟩⟩ (fun _i => ⟨[], []⟩) (fun _i => idx (moreB l z) ps = -1) ?_ ?_
  · skip
    refine hw_seq ?_; refine hw_region (E := TryzE) Tryzok ?_; (iterate 3 refine rq rfl rfl rfl rfl rfl ?_); refine rg_nil ?_; show HW _ _ _ _ _; refine hw_block ?_
    refine hw_loopK (ι := Nat) ⟨[(0, some _), (1, some _), (7, some _)], [(1000, some _)]⟩ ⟨⟨⟨_, rfl, CoR.refl _⟩, ⟨_, rfl, CoR.refl _⟩, ⟨_, rfl, CoR.refl _⟩, trivial⟩, ⟨⟨_, rfl, CoO.refl _⟩, trivial⟩⟩ (fun i => ⟨[(8, some (vI i))], []⟩) (fun i => i ≤ ps.length ∧ (∀ j, j < i → moreB l z (ps.getD j default) = false)) (fun i => ps.length - i) (0) (⟨Nat.zero_le _, all_zero⟩) ⟨⟨⟨_, rfl, (by first | exact CoR.refl _ | exact coi (by omega) | exact cob (by simp_all))⟩, trivial⟩, trivial⟩ ?_
    rintro i ⟨hi, hI⟩
    refine hw_seq ?_; refine hw_region (E := TryzE) Tryzok ?_; refine rq rfl rfl rfl rfl rfl ?_; refine rg_nil ?_; show HW _ _ _ _ _; refine hw_seq ?_; refine hw_cond _ rfl (fun r0 => ?_) (fun r0 => ?_)
    · skip
      have h0 := r0
      have h0 := of_decide_eq_true h0
      try simp only [Int.toNat_natCast] at h0
      refine hw_skip ?_; show HW _ _ _ _ _; refine hw_seq ?_; refine hw_block ?_; refine hw_seq ?_; refine hw_region (E := TryzE) Tryzok ?_; (iterate 2 refine rq rfl rfl rfl rfl rfl ?_); refine rg_nil ?_; show HW _ _ _ _ _
      refine hw_seq ?_; refine hw_region (E := TryzE) Tryzok ?_; (iterate 5 refine rq rfl rfl rfl rfl rfl ?_)
      refine rg_fcall rfl rfl rfl rfl rfl rfl good91 (cFol1 (ps.getD i default) l z) (CoHCL.refl _) ⟨⟨_, rfl, CoO.refl _⟩, trivial⟩ rfl rfl ?_; refine rg_nil ?_; show HW _ _ _ _ _; refine hw_cond _ rfl (fun r1 => ?_) (fun r1 => ?_)
      · skip
        have h1 := r1
        refine hw_seq ?_; refine hw_region (E := TryzE) Tryzok ?_; (iterate 2 refine rq rfl rfl rfl rfl rfl ?_); refine rg_nil ?_; show HW _ _ _ _ _; refine hw_ret ?_; refine ⟨.inr rfl, ?_⟩
        exact ⟨_, _, rfl, (by (repeat' apply And.intro) <;> first | trivial | exact Nat.le_of_ble_eq_true rfl), coi (idx_t (i := i) (by omega) hI h1).symm, ⟨⟨_, rfl, CoO.refl _⟩, trivial⟩⟩
      · skip
        have h1 := r1
        refine hw_skip ?_; show HW _ _ _ _ _; refine hw_region (E := TryzE) Tryzok ?_; (iterate 2 refine rq rfl rfl rfl rfl rfl ?_); refine rg_nil ?_; refine ⟨i + 1, ?_, ?_, ?_⟩
        · exact ⟨by show i + 1 ≤ _; omega, all_succ hI (h1)⟩
        · first | omega | (dsimp only; omega)
        · exact ⟨⟨⟨_, rfl, (by first | exact CoR.refl _ | exact coi (by omega) | exact cob (by simp_all))⟩, ⟨_, rfl, CoR.refl _⟩, ⟨_, rfl, CoR.refl _⟩, ⟨_, rfl, CoR.refl _⟩, trivial⟩, ⟨⟨_, rfl, CoO.refl _⟩, trivial⟩⟩
    · skip
      have h0 := r0
      have h0 := of_decide_eq_false h0
      try simp only [Int.toNat_natCast] at h0
      refine hw_exit ?_; refine ⟨(), ?_, ?_⟩
      · exact idx_f fun j hj => hI j (by omega)
      · exact ⟨trivial, ⟨⟨_, rfl, CoO.refl _⟩, trivial⟩⟩
  · rintro _ hj
    refine hw_seq ?_; refine hw_region (E := TryzE) Tryzok ?_; refine rq rfl rfl rfl rfl rfl ?_; refine rg_nil ?_; show HW _ _ _ _ _; refine hw_ret ?_; refine ⟨.inr rfl, ?_⟩
    exact ⟨_, _, rfl, (by (repeat' apply And.intro) <;> first | trivial | exact Nat.le_of_ble_eq_true rfl), coi hj.symm, ⟨⟨_, rfl, CoO.refl _⟩, trivial⟩⟩
theorem good78 : goodFn Tryz.prog 78 := ⟨Tryz.f78, Tryz.func78, by kernel_rfl, by kernel_rfl⟩
theorem cFollow (l : List Fd) (ps : List AS) (z0 : AS) : HPure Tryz.prog 78 [pP (fdl l), pP (asl ps), pA z0] (prOf [pA (kept l ps z0), pP .any]) := by
  refine hpure_of (nt := 30) Tryzok Tryz.func78 rfl rfl (Nat.le_of_ble_eq_true rfl) ?_; refine hw_seq ?_; refine hw_region (E := TryzE) Tryzok ?_; refine rm 0 rfl rfl rfl rfl rfl rfl ?_; refine rm 1 rfl rfl rfl rfl rfl rfl ?_
  (iterate 2 refine rq rfl rfl rfl rfl rfl ?_); refine rg_nil ?_; show HW _ _ _ _ _; refine hw_seq ?_; refine hw_region (E := TryzE) Tryzok ?_; refine rq rfl rfl rfl rfl rfl ?_; refine rg_nil ?_; show HW _ _ _ _ _
  refine hw_block ?_; refine hw_freeze_box 3 rfl rfl rfl ?_; refine hw_adopt 8 900 true 1 3 (lf iC []) (by decide) rfl (CoP.sl rfl (.inr rfl) (fun h => h) (fun i j hi _ => absurd hi (Nat.not_lt_zero i))) (.inr rfl) rfl ?_
  refine hw_loopK (ι := Nat × List Nat × AS) ⟨[(1, some _), (3, some _), (5, some _)], []⟩ ⟨⟨⟨_, rfl, CoR.refl _⟩, ⟨_, rfl, CoR.refl _⟩, ⟨_, rfl, CoR.refl _⟩, trivial⟩, trivial⟩ (fun x => ⟨[(8, some (.v (.one (.ref 900 x.2.1.length))))], [(900, some (.arr true 1 3 x.2.1.length (lf iC x.2.1))), (1, some (.box [.p (asC x.2.2)]))]⟩) (fun x => FolI l ps z0 x) (fun x => x.1) ((4294967297, [], z0)) (fol_zero l ps z0) ⟨⟨⟨_, rfl, (by first | exact CoR.refl _ | exact coi (by omega) | exact cob (by simp_all))⟩, trivial⟩, ⟨⟨_, rfl, CoO.refl _⟩, ⟨_, rfl, CoO.refl _⟩, trivial⟩⟩ ?_
  rintro x hx
  have hlen := hx.2.2
  have hpos := fol_pos hx
  refine hw_block ?_; refine hw_seq ?_; refine hw_region (E := TryzE) Tryzok ?_; (iterate 2 refine rq rfl rfl rfl rfl rfl ?_)
  refine rg_fcall rfl rfl rfl rfl rfl rfl good62 ((cIxH ps l x.2.2).swap 1000 1) (⟨CoP.refl _, fol_ren l, trivial⟩) ⟨⟨_, rfl, CoO.refl _⟩, trivial⟩ rfl rfl ?_; refine rq rfl rfl rfl rfl rfl ?_; refine rg_nil ?_; show HW _ _ _ _ _
  (iterate 2 refine hw_seq ?_); refine hw_region (E := TryzE) Tryzok ?_; (iterate 2 refine rq rfl rfl rfl rfl rfl ?_); refine rg_nil ?_; show HW _ _ _ _ _; refine hw_cond _ rfl (fun r0 => ?_) (fun r0 => ?_)
  · skip
    have h0 := r0
    have h0 := of_decide_eq_true h0
    try simp only [Int.toNat_natCast] at h0
    refine hw_seq ?_; refine hw_freeze 8 rfl rfl rfl ?_; refine hw_region (E := TryzE) Tryzok ?_; (iterate 4 refine rq rfl rfl rfl rfl rfl ?_); refine rg_nil ?_; show HW _ _ _ _ _; refine hw_ret ?_; refine ⟨.inr rfl, ?_⟩
    exact ⟨_, _, _, _, rfl, (by (repeat' apply And.intro) <;> first | trivial | exact Nat.le_of_ble_eq_true rfl | rfl), rfl, (by (repeat' apply And.intro) <;> first | trivial | exact Nat.le_of_ble_eq_true rfl | rfl), ⟨cci (congrArg asI (fol_end hx (by omega))), CoC.one (CoP.any_of), trivial⟩⟩
  · skip
    have h0 := r0
    have h0 := of_decide_eq_false h0
    try simp only [Int.toNat_natCast] at h0
    obtain ⟨i0, hi0, hi1, hi2, hi3⟩ := idx_some (p := moreB l x.2.2) (l := ps) (by omega)
    refine hw_skip ?_; show HW _ _ _ _ _; refine hw_seq ?_; refine hw_draw (E := TryzE) Tryzok Tryzmixed [0, 1, 2, 3, 4, 5, 6, 7, 8, 9] ?_; (iterate 7 refine rq rfl rfl rfl rfl rfl ?_)
    refine rc rfl rfl rfl rfl rfl rfl good92 (cMore l (ps.getD i0 default) x.2.2) (⟨CoC.refl _, CoC.one (CoP.of_eq (by rw [hi0]; rfl)), CoC.refl _, trivial⟩) rfl rfl ?_; refine rq rfl rfl rfl rfl rfl ?_
    refine rs rfl rfl rfl rfl rfl ?_; refine rg_nil ?_; refine ⟨by kernel_rfl, ?_⟩; show HW _ _ _ _ _; refine hw_region (E := TryzE) Tryzok ?_; (iterate 2 refine rq rfl rfl rfl rfl rfl ?_); refine rm 2 rfl rfl rfl rfl rfl rfl ?_
    refine ra 3 true rfl rfl rfl rfl rfl rfl ?_; refine rq rfl rfl rfl rfl rfl ?_; refine rg_nil ?_; refine ⟨(x.1 - 1, x.2.1 ++ [i0], x.2.2 ||| moreS l (ps.getD i0 default) x.2.2), ?_, ?_, ?_⟩
    · exact fol_next hx hi1 hi2 hi3
    · dsimp only
      omega
    · exact ⟨⟨⟨_, rfl, (ref_app rfl)⟩, ⟨_, rfl, CoR.refl _⟩, ⟨_, rfl, CoR.refl _⟩, ⟨_, rfl, CoR.refl _⟩, trivial⟩, ⟨⟨_, rfl, (arr_app1 rfl (CoP.of_eq (congrArg (fun z => PV.raw (.int .i64 z)) hi0)))⟩, ⟨_, rfl, ⟨CoP.of_eq (congrArg (fun z => PV.raw (.int .u32 z)) (bOr _ _)), trivial⟩⟩, trivial⟩⟩
theorem good47 : goodFn Tryz.prog 47 := ⟨Tryz.f47, Tryz.func47, by kernel_rfl, by kernel_rfl⟩
theorem cKept (l : List Fd) (ps : List AS) (z : AS) : HPure Tryz.prog 47 [pP (fdl l), pP (asl ps), pA z] (prOf [pA (kept l ps z)]) := by
  refine hpure_of (nt := 17) Tryzok Tryz.func47 rfl rfl (Nat.le_of_ble_eq_true rfl) ?_; refine hw_seq ?_; refine hw_region (E := TryzE) Tryzok ?_; refine rq rfl rfl rfl rfl rfl ?_; refine rg_nil ?_; show HW _ _ _ _ _
  refine hw_seq ?_; refine hw_region (E := TryzE) Tryzok ?_; (iterate 3 refine rq rfl rfl rfl rfl rfl ?_); refine rc rfl rfl rfl rfl rfl rfl good78 (cFollow l ps z) (CoL.refl _) rfl rfl ?_
  (iterate 5 refine rq rfl rfl rfl rfl rfl ?_); refine rg_nil ?_; show HW _ _ _ _ _; refine hw_seq ?_; refine hw_region (E := TryzE) Tryzok ?_; (iterate 2 refine rq rfl rfl rfl rfl rfl ?_); refine rg_nil ?_; show HW _ _ _ _ _
  refine hw_ret ?_; refine ⟨.inr rfl, ?_⟩
  exact ⟨_, _, _, _, rfl, (by (repeat' apply And.intro) <;> first | trivial | exact Nat.le_of_ble_eq_true rfl | rfl), rfl, (by (repeat' apply And.intro) <;> first | trivial | exact Nat.le_of_ble_eq_true rfl | rfl), CoL.refl _⟩
theorem good21 : goodFn Tryz.prog 21 := ⟨Tryz.f21, Tryz.func21, by kernel_rfl, by kernel_rfl⟩
theorem cPres (l : List Fd) (ps : List AS) (x : Fd) : HPure Tryz.prog 21 [pP (fdl l), pP (asl ps), x.pc] (prOf [pB (presB l ps x)]) := by
  refine hpure_of (nt := 16) Tryzok Tryz.func21 rfl rfl (Nat.le_of_ble_eq_true rfl) ?_; refine hw_seq ?_; refine hw_region (E := TryzE) Tryzok ?_; refine rm 0 rfl rfl rfl rfl rfl rfl ?_; refine rq rfl rfl rfl rfl rfl ?_
  refine rg_nil ?_; show HW _ _ _ _ _; refine hw_seq ?_; refine hw_draw (E := TryzE) Tryzok Tryzmixed [0, 1, 2, 3, 4, 5, 6, 7, 8, 9] ?_; (iterate 6 refine rq rfl rfl rfl rfl rfl ?_)
  refine rc rfl rfl rfl rfl rfl rfl good47 (cKept l ps x.lhs) (CoL.refl _) rfl rfl ?_; (iterate 3 refine rq rfl rfl rfl rfl rfl ?_); refine rg_nil ?_; refine ⟨by kernel_rfl, ?_⟩; show HW _ _ _ _ _; refine hw_ret ?_
  refine ⟨.inr rfl, ?_⟩
  exact ⟨_, _, _, _, rfl, (by (repeat' apply And.intro) <;> first | trivial | exact Nat.le_of_ble_eq_true rfl | rfl), rfl, (by (repeat' apply And.intro) <;> first | trivial | exact Nat.le_of_ble_eq_true rfl | rfl), ⟨ccb pres_v, trivial⟩⟩
theorem good55 : goodFn Tryz.prog 55 := ⟨Tryz.f55, Tryz.func55, by kernel_rfl, by kernel_rfl⟩
theorem cLost (l : List Fd) (ps : List AS) (hl : l.length ≤ 16777216) : HPure Tryz.prog 55 [pP (fdl l), pP (asl ps)] (prOf [pP (il (lostT l ps l.length))]) := by
  refine hpure_of (nt := 26) Tryzok Tryz.func55 rfl rfl (Nat.le_of_ble_eq_true rfl) ?_; refine hw_seq ?_; refine hw_region (E := TryzE) Tryzok ?_; refine rq rfl rfl rfl rfl rfl ?_; refine rg_nil ?_; show HW _ _ _ _ _
  refine hw_seq ?_; refine hw_region (E := TryzE) Tryzok ?_; refine rq rfl rfl rfl rfl rfl ?_; refine rg_nil ?_; show HW _ _ _ _ _; (iterate 2 refine hw_seq ?_)
  refine hw_bt 0 rfl fun hn => ?_
  refine hw_region (E := TryzE) Tryzok ?_; (iterate 3 refine rq rfl rfl rfl rfl rfl ?_); refine rg_nil ?_; show HW _ _ _ _ _; refine hw_block ?_
  refine hw_adopt 5 900 true 1 3 (lf iC []) (by decide) rfl (CoP.sl rfl (.inr rfl) (fun h => h) (fun i j hi _ => absurd hi (Nat.not_lt_zero i))) (.inr rfl) rfl ?_
  refine hw_loopK (ι := Nat) ⟨[(0, some _), (1, some _), (8, some _), (9, some _)], []⟩ ⟨⟨⟨_, rfl, CoR.refl _⟩, ⟨_, rfl, CoR.refl _⟩, ⟨_, rfl, CoR.refl _⟩, ⟨_, rfl, CoR.refl _⟩, trivial⟩, trivial⟩ (fun i => ⟨[(5, some (.v (.one (.ref 900 (lostT l ps i).length)))), (10, some (vI i))], [(900, some (.arr true 1 3 (lostT l ps i).length (lf iC (lostT l ps i))))]⟩) (fun i => i ≤ l.length) (fun i => l.length - i) (0) (Nat.zero_le _) ⟨⟨⟨_, rfl, (by first | exact CoR.refl _ | exact coi (by omega) | exact cob (by simp_all))⟩, ⟨_, rfl, (by first | exact CoR.refl _ | exact coi (by omega) | exact cob (by simp_all))⟩, trivial⟩, ⟨⟨_, rfl, CoO.refl _⟩, trivial⟩⟩ ?_
  rintro i hi
  have hlen := lostT_len l ps i
  refine hw_seq ?_; refine hw_region (E := TryzE) Tryzok ?_; refine rq rfl rfl rfl rfl rfl ?_; refine rg_nil ?_; show HW _ _ _ _ _; refine hw_seq ?_; refine hw_cond _ rfl (fun r0 => ?_) (fun r0 => ?_)
  · skip
    have h0 := r0
    have h0 := of_decide_eq_true h0
    try simp only [Int.toNat_natCast] at h0
    refine hw_skip ?_; show HW _ _ _ _ _; refine hw_seq ?_; refine hw_block ?_; refine hw_seq ?_; refine hw_region (E := TryzE) Tryzok ?_; (iterate 3 refine rq rfl rfl rfl rfl rfl ?_); refine rm 0 rfl rfl rfl rfl rfl rfl ?_
    refine rq rfl rfl rfl rfl rfl ?_; refine rs rfl rfl rfl rfl rfl ?_; refine rg_nil ?_; show HW _ _ _ _ _; refine hw_seq ?_; refine hw_region (E := TryzE) Tryzok ?_; (iterate 3 refine rq rfl rfl rfl rfl rfl ?_)
    refine rc rfl rfl rfl rfl rfl rfl good21 (cPres l ps (l.getD i default)) (CoL.refl _) rfl rfl ?_; refine rq rfl rfl rfl rfl rfl ?_; refine rg_nil ?_; show HW _ _ _ _ _; refine hw_cond _ rfl (fun r1 => ?_) (fun r1 => ?_)
    · skip
      have h1 := r1
      have h1 := not_t h1
      have hq := not_t r1
      refine hw_region (E := TryzE) Tryzok ?_; (iterate 2 refine rq rfl rfl rfl rfl rfl ?_); refine rm 1 rfl rfl rfl rfl rfl rfl ?_; refine ra 2 true rfl rfl rfl rfl rfl rfl ?_; refine rq rfl rfl rfl rfl rfl ?_; refine rg_nil ?_
      show HW _ _ _ _ _; refine hw_region (E := TryzE) Tryzok ?_; (iterate 2 refine rq rfl rfl rfl rfl rfl ?_); refine rg_nil ?_
      first | (refine ⟨i + 1, ?_, ?_, ?_⟩
               · show i + 1 ≤ _; omega
               · first | omega | (dsimp only; omega)
               · exact ⟨⟨⟨_, rfl, (ref_app (lostT_t (by assumption)))⟩, ⟨_, rfl, (by first | exact CoR.refl _ | exact coi (by omega) | exact cob (by simp_all))⟩, ⟨_, rfl, CoR.refl _⟩, ⟨_, rfl, CoR.refl _⟩, ⟨_, rfl, CoR.refl _⟩, ⟨_, rfl, CoR.refl _⟩, trivial⟩, ⟨⟨_, rfl, (arr_app1 (lostT_t (by assumption)) (CoP.refl _))⟩, trivial⟩⟩)
            | (refine ⟨i + 1, ?_, ?_, ?_⟩
               · show i + 1 ≤ _; omega
               · first | omega | (dsimp only; omega)
               · exact ⟨⟨⟨_, rfl, (ref_same (lostT_f (by assumption)))⟩, ⟨_, rfl, (by first | exact CoR.refl _ | exact coi (by omega) | exact cob (by simp_all))⟩, ⟨_, rfl, CoR.refl _⟩, ⟨_, rfl, CoR.refl _⟩, ⟨_, rfl, CoR.refl _⟩, ⟨_, rfl, CoR.refl _⟩, trivial⟩, ⟨⟨_, rfl, (arr_same (lostT_f (by assumption)))⟩, trivial⟩⟩)
    · skip
      have h1 := r1
      have h1 := not_f h1
      have hq := not_f r1
      refine hw_skip ?_; show HW _ _ _ _ _; refine hw_region (E := TryzE) Tryzok ?_; (iterate 2 refine rq rfl rfl rfl rfl rfl ?_); refine rg_nil ?_
      first | (refine ⟨i + 1, ?_, ?_, ?_⟩
               · show i + 1 ≤ _; omega
               · first | omega | (dsimp only; omega)
               · exact ⟨⟨⟨_, rfl, (ref_app (lostT_t (by assumption)))⟩, ⟨_, rfl, (by first | exact CoR.refl _ | exact coi (by omega) | exact cob (by simp_all))⟩, ⟨_, rfl, CoR.refl _⟩, ⟨_, rfl, CoR.refl _⟩, ⟨_, rfl, CoR.refl _⟩, ⟨_, rfl, CoR.refl _⟩, trivial⟩, ⟨⟨_, rfl, (arr_app1 (lostT_t (by assumption)) (CoP.refl _))⟩, trivial⟩⟩)
            | (refine ⟨i + 1, ?_, ?_, ?_⟩
               · show i + 1 ≤ _; omega
               · first | omega | (dsimp only; omega)
               · exact ⟨⟨⟨_, rfl, (ref_same (lostT_f (by assumption)))⟩, ⟨_, rfl, (by first | exact CoR.refl _ | exact coi (by omega) | exact cob (by simp_all))⟩, ⟨_, rfl, CoR.refl _⟩, ⟨_, rfl, CoR.refl _⟩, ⟨_, rfl, CoR.refl _⟩, ⟨_, rfl, CoR.refl _⟩, trivial⟩, ⟨⟨_, rfl, (arr_same (lostT_f (by assumption)))⟩, trivial⟩⟩)
  · skip
    have h0 := r0
    have h0 := of_decide_eq_false h0
    try simp only [Int.toNat_natCast] at h0
    obtain rfl : i = l.length := by omega
    refine hw_exit ?_; show HW _ _ _ _ _; refine hw_seq ?_; refine hw_region (E := TryzE) Tryzok ?_; (iterate 2 refine rq rfl rfl rfl rfl rfl ?_); refine rg_nil ?_; refine hw_freeze 4 rfl rfl rfl ?_; show HW _ _ _ _ _
    refine hw_ret ?_; refine ⟨.inr rfl, ?_⟩
    exact ⟨_, _, _, _, rfl, (by (repeat' apply And.intro) <;> first | trivial | exact Nat.le_of_ble_eq_true rfl | rfl), rfl, (by (repeat' apply And.intro) <;> first | trivial | exact Nat.le_of_ble_eq_true rfl | rfl), ⟨CoC.one (CoP.refl _), trivial⟩⟩
theorem good24 : goodFn Tryz.prog 24 := ⟨Tryz.f24, Tryz.func24, by kernel_rfl, by kernel_rfl⟩
theorem cAll (l : List Fd) (ps : List AS) (hl : l.length ≤ 16777216) : HPure Tryz.prog 24 [pP (fdl l), pP (asl ps)] (prOf [pB (allP l ps)]) := by
  refine hpure_of (nt := 10) Tryzok Tryz.func24 rfl rfl (Nat.le_of_ble_eq_true rfl) ?_; refine hw_seq ?_; refine hw_region (E := TryzE) Tryzok ?_; refine rq rfl rfl rfl rfl rfl ?_; refine rg_nil ?_; show HW _ _ _ _ _
  refine hw_seq ?_; refine hw_region (E := TryzE) Tryzok ?_; (iterate 2 refine rq rfl rfl rfl rfl rfl ?_); refine rc rfl rfl rfl rfl rfl rfl good55 (cLost l ps hl) (CoL.refl _) rfl rfl ?_
  (iterate 3 refine rq rfl rfl rfl rfl rfl ?_); refine rg_nil ?_; show HW _ _ _ _ _; refine hw_ret ?_; refine ⟨.inr rfl, ?_⟩
  exact ⟨_, _, _, _, rfl, (by (repeat' apply And.intro) <;> first | trivial | exact Nat.le_of_ble_eq_true rfl | rfl), rfl, (by (repeat' apply And.intro) <;> first | trivial | exact Nat.le_of_ble_eq_true rfl | rfl), ⟨ccb all_lost, trivial⟩⟩
end Go.Hx
end
