/- A part of the proof: lemmas for the theorem of this claim, merged by a program of ours out of V11, Cs14, V12. -/
import Derived.Test.YtgeliioenkmfhaaGreatDoorZ23
set_option linter.all false
section
namespace Go.Hx
open Go.Proofs
set_option maxRecDepth 100000
theorem good72 : goodFn Tryz.prog 72 := ⟨Tryz.f72, Tryz.func72, by kernel_rfl, by kernel_rfl⟩
theorem cSplitH (l : List Fd) (hl : l.length ≤ 4096) : HFun Tryz.prog 72 [.one (.p (fdl l))] [] (.v (.one (.ref 900 (spl l).length))) [(900, .arr true 2 32 (spl l).length (lf Fd.c (spl l)))] [] := by
  refine hfun_of (nt := 37) Tryzok Tryz.func72 rfl rfl (Nat.le_of_ble_eq_true rfl) rfl ?_; refine hw_seq ?_; refine hw_region (E := TryzE) Tryzok ?_; refine rq rfl rfl rfl rfl rfl ?_; refine rg_nil ?_; show HW _ _ _ _ _
  refine hw_seq ?_; refine hw_region (E := TryzE) Tryzok ?_; refine rq rfl rfl rfl rfl rfl ?_; refine rg_nil ?_; show HW _ _ _ _ _; (iterate 2 refine hw_seq ?_)
  refine hw_bt 0 rfl fun hn => ?_
  refine hw_region (E := TryzE) Tryzok ?_; (iterate 3 refine rq rfl rfl rfl rfl rfl ?_); refine rg_nil ?_; show HW _ _ _ _ _; refine hw_block ?_
  refine hw_adopt 3 901 true 2 32 (lf Fd.c []) (by decide) rfl (CoP.sl rfl (.inr rfl) (fun h => h) (fun i j hi _ => absurd hi (Nat.not_lt_zero i))) (.inr rfl) rfl ?_
  refine hw_loopK (ι := Nat) ⟨[(8, some _), (9, some _)], []⟩ ⟨⟨⟨_, rfl, CoR.refl _⟩, ⟨_, rfl, CoR.refl _⟩, trivial⟩, trivial⟩ (fun i => ⟨[(3, some (.v (.one (.ref 901 (splitL (l.take i)).length)))), (10, some (vI i))], [(901, some (.arr true 2 32 (splitL (l.take i)).length (lf Fd.c (splitL (l.take i)))))]⟩) (fun i => i ≤ l.length) (fun i => l.length - i) (0) (Nat.zero_le _) ⟨⟨⟨_, rfl, (by first | exact CoR.refl _ | exact coi (by omega) | exact cob (by simp_all))⟩, ⟨_, rfl, (by first | exact CoR.refl _ | exact coi (by omega) | exact cob (by simp_all))⟩, trivial⟩, ⟨⟨_, rfl, CoO.refl _⟩, trivial⟩⟩ ?_
  rintro i hi
  refine hw_seq ?_; refine hw_region (E := TryzE) Tryzok ?_; refine rq rfl rfl rfl rfl rfl ?_; refine rg_nil ?_; show HW _ _ _ _ _; refine hw_seq ?_; refine hw_cond _ rfl (fun r0 => ?_) (fun r0 => ?_)
  · skip
    have h0 := r0
    have h0 := of_decide_eq_true h0
    try simp only [Int.toNat_natCast] at h0
    refine hw_skip ?_; show HW _ _ _ _ _; refine hw_seq ?_; refine hw_block ?_; refine hw_seq ?_; refine hw_region (E := TryzE) Tryzok ?_; (iterate 2 refine rq rfl rfl rfl rfl rfl ?_); refine rm 0 rfl rfl rfl rfl rfl rfl ?_
    refine rs rfl rfl rfl rfl rfl ?_; refine rg_nil ?_; show HW _ _ _ _ _; refine hw_seq ?_; refine hw_region (E := TryzE) Tryzok ?_; (iterate 5 refine rq rfl rfl rfl rfl rfl ?_)
    refine rc rfl rfl rfl rfl rfl rfl good73 (cMem ((l.getD i default).rhs &&& ~~~(l.getD i default).lhs)) (⟨cci (bNot _ _), trivial⟩) rfl rfl ?_; (iterate 2 refine rq rfl rfl rfl rfl rfl ?_); refine rg_nil ?_; show HW _ _ _ _ _
    refine hw_block ?_
    refine hw_loopK (ι := Nat) ⟨[(5, some _), (8, some _), (9, some _), (10, some _), (19, some _), (20, some _)], [(0, some _)]⟩ ⟨⟨⟨_, rfl, CoR.refl _⟩, ⟨_, rfl, CoR.refl _⟩, ⟨_, rfl, CoR.refl _⟩, ⟨_, rfl, CoR.refl _⟩, ⟨_, rfl, CoR.refl _⟩, ⟨_, rfl, CoR.refl _⟩, trivial⟩, ⟨⟨_, rfl, CoO.refl _⟩, trivial⟩⟩ (fun k => ⟨[(3, some (.v (.one (.ref 901 (splitT l i k).length)))), (21, some (vI k))], [(901, some (.arr true 2 32 (splitT l i k).length (lf Fd.c (splitT l i k))))]⟩) (fun k => k ≤ (membs ((l.getD i default).rhs &&& ~~~(l.getD i default).lhs)).length) (fun k => (membs ((l.getD i default).rhs &&& ~~~(l.getD i default).lhs)).length - k) (0) (Nat.zero_le _) ⟨⟨⟨_, rfl, (ref_same (splitT_zero l i))⟩, ⟨_, rfl, (by first | exact CoR.refl _ | exact coi (by omega) | exact cob (by simp_all))⟩, trivial⟩, ⟨⟨_, rfl, (arr_same (splitT_zero l i))⟩, trivial⟩⟩ ?_
    rintro k hk
    have hml := membs_le ((l.getD i default).rhs &&& ~~~(l.getD i default).lhs)
    have hsl := splitT_len (l := l) (i := i) (k := k) (by omega)
    refine hw_seq ?_; refine hw_region (E := TryzE) Tryzok ?_; refine rq rfl rfl rfl rfl rfl ?_; refine rg_nil ?_; show HW _ _ _ _ _; refine hw_seq ?_; refine hw_cond _ rfl (fun r1 => ?_) (fun r1 => ?_)
    · skip
      have h1 := r1
      have h1 := of_decide_eq_true h1
      try simp only [Int.toNat_natCast] at h1
      refine hw_skip ?_; show HW _ _ _ _ _; refine hw_seq ?_; refine hw_block ?_; refine hw_seq ?_; refine hw_region (E := TryzE) Tryzok ?_; (iterate 3 refine rq rfl rfl rfl rfl rfl ?_); refine rg_nil ?_; show HW _ _ _ _ _
      refine hw_draw (E := TryzE) Tryzok Tryzmixed [0, 1, 2, 3, 4, 5, 6, 7, 8] ?_; (iterate 4 refine rq rfl rfl rfl rfl rfl ?_); refine rq rfl rfl rfl rfl rfl ?_ (hp := (Int.natCast_nonneg _)); refine rq rfl rfl rfl rfl rfl ?_
      refine rm 1 rfl rfl rfl rfl rfl rfl ?_; refine ra 2 true rfl rfl rfl rfl rfl rfl ?_; refine rq rfl rfl rfl rfl rfl ?_; refine rg_nil ?_; refine ⟨by kernel_rfl, ?_⟩; show HW _ _ _ _ _; refine hw_region (E := TryzE) Tryzok ?_
      (iterate 2 refine rq rfl rfl rfl rfl rfl ?_); refine rg_nil ?_; refine ⟨k + 1, ?_, ?_, ?_⟩
      · show k + 1 ≤ _; omega
      · first | omega | (dsimp only; omega)
      · exact ⟨⟨⟨_, rfl, (ref_app (splitT_step rfl (by omega)))⟩, ⟨_, rfl, (by first | exact CoR.refl _ | exact coi (by omega) | exact cob (by simp_all))⟩, ⟨_, rfl, CoR.refl _⟩, ⟨_, rfl, CoR.refl _⟩, ⟨_, rfl, CoR.refl _⟩, ⟨_, rfl, CoR.refl _⟩, ⟨_, rfl, CoR.refl _⟩, ⟨_, rfl, CoR.refl _⟩, trivial⟩, ⟨⟨_, rfl, (arr_app2 (splitT_step rfl (by omega)) (CoP.refl _) (CoP.of_eq (by exact congrArg (fun z => PV.raw (.int .u32 z)) (shl_one _))))⟩, ⟨_, rfl, CoO.refl _⟩, trivial⟩⟩
    · skip
      have h1 := r1
      have h1 := of_decide_eq_false h1
      try simp only [Int.toNat_natCast] at h1
      obtain rfl : k = (membs ((l.getD i default).rhs &&& ~~~(l.getD i default).lhs)).length := by omega
      refine hw_exit ?_; show HW _ _ _ _ _; refine hw_region (E := TryzE) Tryzok ?_; (iterate 2 refine rq rfl rfl rfl rfl rfl ?_); refine rg_nil ?_; refine ⟨i + 1, ?_, ?_, ?_⟩
      · show i + 1 ≤ _; omega
      · first | omega | (dsimp only; omega)
      · exact ⟨⟨⟨_, rfl, (ref_same (splitT_end (by omega) rfl).symm)⟩, ⟨_, rfl, (by first | exact CoR.refl _ | exact coi (by omega) | exact cob (by simp_all))⟩, ⟨_, rfl, CoR.refl _⟩, ⟨_, rfl, CoR.refl _⟩, trivial⟩, ⟨⟨_, rfl, (arr_same (splitT_end (by omega) rfl).symm)⟩, trivial⟩⟩
  · skip
    have h0 := r0
    have h0 := of_decide_eq_false h0
    try simp only [Int.toNat_natCast] at h0
    obtain rfl : i = l.length := by omega
    refine hw_exit ?_; show HW _ _ _ _ _; refine hw_seq ?_; refine hw_freeze 3 rfl rfl rfl ?_; refine hw_region (E := TryzE) Tryzok ?_; refine rq rfl rfl rfl rfl rfl ?_
    refine rg_fcall rfl rfl rfl rfl rfl rfl good75 (cOnceH (splitL l) (Nat.le_trans (splitL_len l) (by omega))) (⟨CoP.of_eq (by rw [List.take_length]; rfl), trivial⟩) trivial rfl rfl ?_; refine rq rfl rfl rfl rfl rfl ?_
    refine rg_nil ?_; show HW _ _ _ _ _; refine hw_ret ?_; refine ⟨.inr rfl, ?_⟩
    exact ⟨_, _, rfl, (by (repeat' apply And.intro) <;> first | trivial | exact Nat.le_of_ble_eq_true rfl), CoR.refl _, ⟨⟨_, rfl, CoO.refl _⟩, trivial⟩⟩
theorem good48 : goodFn Tryz.prog 48 := ⟨Tryz.f48, Tryz.func48, by kernel_rfl, by kernel_rfl⟩
theorem cRSplitH (l : List Fd) (hl : l.length ≤ 4096) : HFun Tryz.prog 48 [.one (.p (fdl l))] [] (.v (.one (.ref 900 (spl l).length))) [(900, .arr true 2 32 (spl l).length (lf Fd.c (spl l)))] [] := by
  refine hfun_of (nt := 42) Tryzok Tryz.func48 rfl rfl (Nat.le_of_ble_eq_true rfl) rfl ?_; refine hw_seq ?_; refine hw_region (E := TryzE) Tryzok ?_; refine rq rfl rfl rfl rfl rfl ?_; refine rg_nil ?_; show HW _ _ _ _ _
  refine hw_seq ?_; refine hw_region (E := TryzE) Tryzok ?_; refine rq rfl rfl rfl rfl rfl ?_; refine rg_nil ?_; show HW _ _ _ _ _; (iterate 2 refine hw_seq ?_)
  refine hw_bt 0 rfl fun hn => ?_
  refine hw_region (E := TryzE) Tryzok ?_; refine rq rfl rfl rfl rfl rfl ?_; refine rg_nil ?_; show HW _ _ _ _ _; refine hw_block ?_
  refine hw_adopt 3 901 true 2 32 (lf Fd.c []) (by decide) rfl (CoP.sl rfl (.inr rfl) (fun h => h) (fun i j hi _ => absurd hi (Nat.not_lt_zero i))) (.inr rfl) rfl ?_
  refine hw_loopK (ι := Nat) ⟨[(0, some _)], []⟩ ⟨⟨⟨_, rfl, CoR.refl _⟩, trivial⟩, trivial⟩ (fun i => ⟨[(3, some (.v (.one (.ref 901 (splitL (l.take i)).length)))), (4, some (vI i))], [(901, some (.arr true 2 32 (splitL (l.take i)).length (lf Fd.c (splitL (l.take i)))))]⟩) (fun i => i ≤ l.length) (fun i => l.length - i) (0) (Nat.zero_le _) ⟨⟨⟨_, rfl, (by first | exact CoR.refl _ | exact coi (by omega) | exact cob (by simp_all))⟩, ⟨_, rfl, (by first | exact CoR.refl _ | exact coi (by omega) | exact cob (by simp_all))⟩, trivial⟩, ⟨⟨_, rfl, CoO.refl _⟩, trivial⟩⟩ ?_
  rintro i hi
  (iterate 2 refine hw_seq ?_); refine hw_region (E := TryzE) Tryzok ?_; (iterate 4 refine rq rfl rfl rfl rfl rfl ?_); refine rg_nil ?_; show HW _ _ _ _ _; refine hw_cond _ rfl (fun r0 => ?_) (fun r0 => ?_)
  · skip
    have h0 := r0
    have h0 := of_decide_eq_true h0
    try simp only [Int.toNat_natCast] at h0
    refine hw_skip ?_; show HW _ _ _ _ _; refine hw_seq ?_; refine hw_block ?_; refine hw_seq ?_; refine hw_region (E := TryzE) Tryzok ?_; refine rq rfl rfl rfl rfl rfl ?_; refine rg_nil ?_; show HW _ _ _ _ _; refine hw_block ?_
    refine hw_loopK (ι := Nat) ⟨[(0, some _), (4, some _)], []⟩ ⟨⟨⟨_, rfl, CoR.refl _⟩, ⟨_, rfl, CoR.refl _⟩, trivial⟩, trivial⟩ (fun k => ⟨[(3, some (.v (.one (.ref 901 (splitR l i k).length)))), (5, some (vI k))], [(901, some (.arr true 2 32 (splitR l i k).length (lf Fd.c (splitR l i k))))]⟩) (fun k => k ≤ 32) (fun k => 32 - k) (0) (Nat.zero_le _) ⟨⟨⟨_, rfl, (ref_same (splitR_zero l i))⟩, ⟨_, rfl, (by first | exact CoR.refl _ | exact coi (by omega) | exact cob (by simp_all))⟩, trivial⟩, ⟨⟨_, rfl, (arr_same (splitR_zero l i))⟩, trivial⟩⟩ ?_
    rintro k hk
    have hsl := splitR_len (l := l) (i := i) (k := k) (by omega)
    (iterate 2 refine hw_seq ?_); refine hw_region (E := TryzE) Tryzok ?_; (iterate 2 refine rq rfl rfl rfl rfl rfl ?_); refine rg_nil ?_; show HW _ _ _ _ _; refine hw_cond _ rfl (fun r1 => ?_) (fun r1 => ?_)
    · skip
      have h1 := r1
      have h1 := of_decide_eq_true h1
      try simp only [Int.toNat_natCast] at h1
      refine hw_skip ?_; show HW _ _ _ _ _; refine hw_seq ?_; refine hw_block ?_; refine hw_seq ?_; refine hw_draw (E := TryzE) Tryzok Tryzmixed [0, 1, 2, 3, 4, 5, 6, 7, 8, 9, 10, 11, 12] ?_
      (iterate 12 refine rq rfl rfl rfl rfl rfl ?_); refine rc rfl rfl rfl rfl rfl rfl good69 (cHas ((l.getD i default).rhs &&& ~~~(l.getD i default).lhs) k) (⟨cci (bNot _ _), CoC.refl _, trivial⟩) rfl rfl ?_; refine rg_nil ?_
      refine ⟨by kernel_rfl, ?_⟩; show HW _ _ _ _ _; refine hw_cond _ rfl (fun r2 => ?_) (fun r2 => ?_)
      · skip
        have h2 := r2
        refine hw_draw (E := TryzE) Tryzok Tryzmixed [0, 1, 2, 3, 4, 5, 6, 7, 8, 9, 10, 11] ?_; (iterate 9 refine rq rfl rfl rfl rfl rfl ?_); refine rm 0 rfl rfl rfl rfl rfl rfl ?_; refine ra 1 true rfl rfl rfl rfl rfl rfl ?_
        refine rq rfl rfl rfl rfl rfl ?_; refine rg_nil ?_; refine ⟨by kernel_rfl, ?_⟩; show HW _ _ _ _ _; refine hw_region (E := TryzE) Tryzok ?_; (iterate 3 refine rq rfl rfl rfl rfl rfl ?_); refine rg_nil ?_
        first | (refine ⟨k + 1, ?_, ?_, ?_⟩
                 · show k + 1 ≤ _; omega
                 · first | omega | (dsimp only; omega)
                 · exact ⟨⟨⟨_, rfl, (ref_app (splitR_t (by omega) (by assumption)))⟩, ⟨_, rfl, (by first | exact CoR.refl _ | exact coi (by omega) | exact cob (by simp_all))⟩, ⟨_, rfl, CoR.refl _⟩, ⟨_, rfl, CoR.refl _⟩, trivial⟩, ⟨⟨_, rfl, (arr_app2 (splitR_t (by omega) (by assumption)) (CoP.refl _) (CoP.of_eq (by exact congrArg (fun z => PV.raw (.int .u32 z)) (shl_one _))))⟩, trivial⟩⟩)
              | (refine ⟨k + 1, ?_, ?_, ?_⟩
                 · show k + 1 ≤ _; omega
                 · first | omega | (dsimp only; omega)
                 · exact ⟨⟨⟨_, rfl, (ref_same (splitR_f (by omega) (by assumption)))⟩, ⟨_, rfl, (by first | exact CoR.refl _ | exact coi (by omega) | exact cob (by simp_all))⟩, ⟨_, rfl, CoR.refl _⟩, ⟨_, rfl, CoR.refl _⟩, trivial⟩, ⟨⟨_, rfl, (arr_same (splitR_f (by omega) (by assumption)))⟩, trivial⟩⟩)
      · skip
        have h2 := r2
        refine hw_skip ?_; show HW _ _ _ _ _; refine hw_region (E := TryzE) Tryzok ?_; (iterate 3 refine rq rfl rfl rfl rfl rfl ?_); refine rg_nil ?_
        first | (refine ⟨k + 1, ?_, ?_, ?_⟩
                 · show k + 1 ≤ _; omega
                 · first | omega | (dsimp only; omega)
                 · exact ⟨⟨⟨_, rfl, (ref_app (splitR_t (by omega) (by assumption)))⟩, ⟨_, rfl, (by first | exact CoR.refl _ | exact coi (by omega) | exact cob (by simp_all))⟩, ⟨_, rfl, CoR.refl _⟩, ⟨_, rfl, CoR.refl _⟩, trivial⟩, ⟨⟨_, rfl, (arr_app2 (splitR_t (by omega) (by assumption)) (CoP.refl _) (CoP.of_eq (by exact congrArg (fun z => PV.raw (.int .u32 z)) (shl_one _))))⟩, trivial⟩⟩)
              | (refine ⟨k + 1, ?_, ?_, ?_⟩
                 · show k + 1 ≤ _; omega
                 · first | omega | (dsimp only; omega)
                 · exact ⟨⟨⟨_, rfl, (ref_same (splitR_f (by omega) (by assumption)))⟩, ⟨_, rfl, (by first | exact CoR.refl _ | exact coi (by omega) | exact cob (by simp_all))⟩, ⟨_, rfl, CoR.refl _⟩, ⟨_, rfl, CoR.refl _⟩, trivial⟩, ⟨⟨_, rfl, (arr_same (splitR_f (by omega) (by assumption)))⟩, trivial⟩⟩)
    · skip
      have h1 := r1
      have h1 := of_decide_eq_false h1
      try simp only [Int.toNat_natCast] at h1
      obtain rfl : k = 32 := by omega
      refine hw_exit ?_; show HW _ _ _ _ _; refine hw_region (E := TryzE) Tryzok ?_; (iterate 3 refine rq rfl rfl rfl rfl rfl ?_); refine rg_nil ?_; refine ⟨i + 1, ?_, ?_, ?_⟩
      · show i + 1 ≤ _; omega
      · first | omega | (dsimp only; omega)
      · exact ⟨⟨⟨_, rfl, (ref_same (splitR_end (by omega)).symm)⟩, ⟨_, rfl, (by first | exact CoR.refl _ | exact coi (by omega) | exact cob (by simp_all))⟩, ⟨_, rfl, CoR.refl _⟩, trivial⟩, ⟨⟨_, rfl, (arr_same (splitR_end (by omega)).symm)⟩, trivial⟩⟩
  · skip
    have h0 := r0
    have h0 := of_decide_eq_false h0
    try simp only [Int.toNat_natCast] at h0
    obtain rfl : i = l.length := by omega
    refine hw_exit ?_; show HW _ _ _ _ _; refine hw_seq ?_; refine hw_freeze 3 rfl rfl rfl ?_; refine hw_region (E := TryzE) Tryzok ?_; refine rq rfl rfl rfl rfl rfl ?_
    refine rg_fcall rfl rfl rfl rfl rfl rfl good50 (cROnceH (splitL l) (Nat.le_trans (splitL_len l) (by omega))) (⟨CoP.of_eq (by rw [List.take_length]; rfl), trivial⟩) trivial rfl rfl ?_; refine rq rfl rfl rfl rfl rfl ?_
    refine rg_nil ?_; show HW _ _ _ _ _; refine hw_ret ?_; refine ⟨.inr rfl, ?_⟩
    exact ⟨_, _, rfl, (by (repeat' apply And.intro) <;> first | trivial | exact Nat.le_of_ble_eq_true rfl), CoR.refl _, ⟨⟨_, rfl, CoO.refl _⟩, trivial⟩⟩
theorem good46 : goodFn Tryz.prog 46 := ⟨Tryz.f46, Tryz.func46, by kernel_rfl, by kernel_rfl⟩
theorem cMin (l : List Fd) (hl : l.length ≤ 4096) : HPure Tryz.prog 46 [pP (fdl l)] (prOf [pP (fdl (minS l))]) := by
  refine hpure_of (nt := 60) Tryzok Tryz.func46 rfl rfl (Nat.le_of_ble_eq_true rfl) ?_; refine hw_seq ?_; refine hw_region (E := TryzE) Tryzok ?_; refine rq rfl rfl rfl rfl rfl ?_; refine rg_nil ?_; show HW _ _ _ _ _
  refine hw_seq ?_; refine hw_region (E := TryzE) Tryzok ?_; refine rq rfl rfl rfl rfl rfl ?_; refine rg_fcall rfl rfl rfl rfl rfl rfl good72 (cSplitH l hl) (CoHCL.refl _) trivial rfl rfl ?_; refine rq rfl rfl rfl rfl rfl ?_
  refine rg_nil ?_; show HW _ _ _ _ _; (iterate 2 refine hw_seq ?_)
  have hsl := spl_len l
  refine hw_region (E := TryzE) Tryzok ?_; (iterate 3 refine rq rfl rfl rfl rfl rfl ?_); refine rg_nil ?_; show HW _ _ _ _ _; refine hw_block ?_
  refine hw_loopK (ι := Nat) ⟨[(3, some _), (11, some _)], []⟩ ⟨⟨⟨_, rfl, CoR.refl _⟩, ⟨_, rfl, CoR.refl _⟩, trivial⟩, trivial⟩ (fun i => ⟨[(12, some (vI i))], [(900, some (.arr true 2 32 (spl l).length (lf Fd.c (redT (spl l) i))))]⟩) (fun i => i ≤ (spl l).length) (fun i => (spl l).length - i) (0) (Nat.zero_le _) ⟨⟨⟨_, rfl, (by first | exact CoR.refl _ | exact coi (by omega) | exact cob (by simp_all))⟩, trivial⟩, ⟨⟨_, rfl, CoO.refl _⟩, trivial⟩⟩ ?_
  rintro i hi
  have htl := redT_len (l := spl l) (i := i)
  refine hw_seq ?_; refine hw_region (E := TryzE) Tryzok ?_; refine rq rfl rfl rfl rfl rfl ?_; refine rg_nil ?_; show HW _ _ _ _ _; refine hw_seq ?_; refine hw_cond _ rfl (fun r0 => ?_) (fun r0 => ?_)
  · skip
    have h0 := r0
    have h0 := of_decide_eq_true h0
    try simp only [Int.toNat_natCast] at h0
    refine hw_skip ?_; show HW _ _ _ _ _; refine hw_seq ?_; refine hw_block ?_; refine hw_seq ?_; refine hw_region (E := TryzE) Tryzok ?_; (iterate 2 refine rq rfl rfl rfl rfl rfl ?_); refine rg_nil ?_; show HW _ _ _ _ _
    refine hw_seq ?_; refine hw_region (E := TryzE) Tryzok ?_; (iterate 5 refine rq rfl rfl rfl rfl rfl ?_); refine rc rfl rfl rfl rfl rfl rfl good73 (cMem ((redT (spl l) i).getD i default).lhs) (CoL.refl _) rfl rfl ?_
    (iterate 2 refine rq rfl rfl rfl rfl rfl ?_); refine rg_nil ?_; show HW _ _ _ _ _; refine hw_block ?_
    refine hw_loopK (ι := Nat) ⟨[(3, some _), (4, some _), (11, some _), (12, some _), (20, some _), (21, some _)], []⟩ ⟨⟨⟨_, rfl, CoR.refl _⟩, ⟨_, rfl, CoR.refl _⟩, ⟨_, rfl, CoR.refl _⟩, ⟨_, rfl, CoR.refl _⟩, ⟨_, rfl, CoR.refl _⟩, ⟨_, rfl, CoR.refl _⟩, trivial⟩, trivial⟩ (fun k => ⟨[(22, some (vI k))], [(900, some (.arr true 2 32 (spl l).length (lf Fd.c (redK (redT (spl l) i) i k))))]⟩) (fun k => k ≤ (membs ((redT (spl l) i).getD i default).lhs).length) (fun k => (membs ((redT (spl l) i).getD i default).lhs).length - k) (0) (Nat.zero_le _) ⟨⟨⟨_, rfl, (by first | exact CoR.refl _ | exact coi (by omega) | exact cob (by simp_all))⟩, trivial⟩, ⟨⟨_, rfl, (arr_len (redK_zero _ _) rfl)⟩, trivial⟩⟩ ?_
    rintro k hk
    have hml := membs_le ((redT (spl l) i).getD i default).lhs
    refine hw_seq ?_; refine hw_region (E := TryzE) Tryzok ?_; refine rq rfl rfl rfl rfl rfl ?_; refine rg_nil ?_; show HW _ _ _ _ _; refine hw_seq ?_; refine hw_cond _ rfl (fun r1 => ?_) (fun r1 => ?_)
    · skip
      have h1 := r1
      have h1 := of_decide_eq_true h1
      try simp only [Int.toNat_natCast] at h1
      have hkl : (redK (redT (spl l) i) i k).length = (spl l).length := by rw [redK_len, redT_len]
      have hhas := redK_has (l := (redT (spl l) i)) (i := i) (k := k) (by rw [redT_len]; omega) (by omega)
      refine hw_skip ?_; show HW _ _ _ _ _; refine hw_seq ?_; refine hw_block ?_; refine hw_seq ?_; refine hw_region (E := TryzE) Tryzok ?_; (iterate 3 refine rq rfl rfl rfl rfl rfl ?_); refine rg_nil ?_; show HW _ _ _ _ _
      refine hw_seq ?_; refine hw_region (E := TryzE) Tryzok ?_; (iterate 6 refine rq rfl rfl rfl rfl rfl ?_)
      refine rc rfl rfl rfl rfl rfl rfl good74 (cExtra (redK (redT (spl l) i) i k) ((redK (redT (spl l) i) i k).getD i default) ((membs ((redT (spl l) i).getD i default).lhs).getD k default)) (⟨CoC.one (co_lenF (by rw [redK_len, redT_len])), CoC.refl _, CoC.refl _, trivial⟩) rfl rfl ?_
      refine rg_nil ?_; show HW _ _ _ _ _; refine hw_cond _ rfl (fun r2 => ?_) (fun r2 => ?_)
      · skip
        have h2 := r2
        refine hw_draw (E := TryzE) Tryzok Tryzmixed [0, 1, 2, 3, 4, 5, 6, 7, 8, 9, 10] ?_; (iterate 6 refine rq rfl rfl rfl rfl rfl ?_); refine rq rfl rfl rfl rfl rfl ?_ (hp := (Int.natCast_nonneg _))
        (iterate 3 refine rq rfl rfl rfl rfl rfl ?_); refine rs rfl rfl rfl rfl rfl ?_; refine rg_nil ?_; refine ⟨by kernel_rfl, ?_⟩; show HW _ _ _ _ _; refine hw_region (E := TryzE) Tryzok ?_
        (iterate 2 refine rq rfl rfl rfl rfl rfl ?_); refine rg_nil ?_
        first | (refine ⟨k + 1, ?_, ?_, ?_⟩
                 · show k + 1 ≤ _; omega
                 · first | omega | (dsimp only; omega)
                 · exact ⟨⟨⟨_, rfl, (by first | exact CoR.refl _ | exact coi (by omega) | exact cob (by simp_all))⟩, ⟨_, rfl, CoR.refl _⟩, ⟨_, rfl, CoR.refl _⟩, ⟨_, rfl, CoR.refl _⟩, ⟨_, rfl, CoR.refl _⟩, ⟨_, rfl, CoR.refl _⟩, ⟨_, rfl, CoR.refl _⟩, trivial⟩, ⟨⟨_, rfl, (co_setF (i := i) (a := (membs ((redT (spl l) i).getD i default).lhs).getD k default) (l := (redK (redT (spl l) i) i k)) (by rw [redK_succ (by omega), redA_t hhas (by assumption)]) (and_shl _ _) (by omega) (by omega) hkl.symm)⟩, trivial⟩⟩)
              | (refine ⟨k + 1, ?_, ?_, ?_⟩
                 · show k + 1 ≤ _; omega
                 · first | omega | (dsimp only; omega)
                 · exact ⟨⟨⟨_, rfl, (by first | exact CoR.refl _ | exact coi (by omega) | exact cob (by simp_all))⟩, ⟨_, rfl, CoR.refl _⟩, ⟨_, rfl, CoR.refl _⟩, ⟨_, rfl, CoR.refl _⟩, ⟨_, rfl, CoR.refl _⟩, ⟨_, rfl, CoR.refl _⟩, ⟨_, rfl, CoR.refl _⟩, trivial⟩, ⟨⟨_, rfl, (arr_len (by rw [redK_succ (by omega), redA_f (by assumption)]) rfl)⟩, trivial⟩⟩)
      · skip
        have h2 := r2
        refine hw_skip ?_; show HW _ _ _ _ _; refine hw_region (E := TryzE) Tryzok ?_; (iterate 2 refine rq rfl rfl rfl rfl rfl ?_); refine rg_nil ?_
        first | (refine ⟨k + 1, ?_, ?_, ?_⟩
                 · show k + 1 ≤ _; omega
                 · first | omega | (dsimp only; omega)
                 · exact ⟨⟨⟨_, rfl, (by first | exact CoR.refl _ | exact coi (by omega) | exact cob (by simp_all))⟩, ⟨_, rfl, CoR.refl _⟩, ⟨_, rfl, CoR.refl _⟩, ⟨_, rfl, CoR.refl _⟩, ⟨_, rfl, CoR.refl _⟩, ⟨_, rfl, CoR.refl _⟩, ⟨_, rfl, CoR.refl _⟩, trivial⟩, ⟨⟨_, rfl, (co_setF (i := i) (a := (membs ((redT (spl l) i).getD i default).lhs).getD k default) (l := (redK (redT (spl l) i) i k)) (by rw [redK_succ (by omega), redA_t hhas (by assumption)]) (and_shl _ _) (by omega) (by omega) hkl.symm)⟩, trivial⟩⟩)
              | (refine ⟨k + 1, ?_, ?_, ?_⟩
                 · show k + 1 ≤ _; omega
                 · first | omega | (dsimp only; omega)
                 · exact ⟨⟨⟨_, rfl, (by first | exact CoR.refl _ | exact coi (by omega) | exact cob (by simp_all))⟩, ⟨_, rfl, CoR.refl _⟩, ⟨_, rfl, CoR.refl _⟩, ⟨_, rfl, CoR.refl _⟩, ⟨_, rfl, CoR.refl _⟩, ⟨_, rfl, CoR.refl _⟩, ⟨_, rfl, CoR.refl _⟩, trivial⟩, ⟨⟨_, rfl, (arr_len (by rw [redK_succ (by omega), redA_f (by assumption)]) rfl)⟩, trivial⟩⟩)
    · skip
      have h1 := r1
      have h1 := of_decide_eq_false h1
      try simp only [Int.toNat_natCast] at h1
      obtain rfl : k = (membs ((redT (spl l) i).getD i default).lhs).length := by omega
      refine hw_exit ?_; show HW _ _ _ _ _; refine hw_region (E := TryzE) Tryzok ?_; (iterate 2 refine rq rfl rfl rfl rfl rfl ?_); refine rg_nil ?_; refine ⟨i + 1, ?_, ?_, ?_⟩
      · show i + 1 ≤ _; omega
      · first | omega | (dsimp only; omega)
      · exact ⟨⟨⟨_, rfl, (by first | exact CoR.refl _ | exact coi (by omega) | exact cob (by simp_all))⟩, ⟨_, rfl, CoR.refl _⟩, ⟨_, rfl, CoR.refl _⟩, trivial⟩, ⟨⟨_, rfl, (arr_len (by rw [redT_succ, redK_end rfl]) rfl)⟩, trivial⟩⟩
  · skip
    have h0 := r0
    have h0 := of_decide_eq_false h0
    try simp only [Int.toNat_natCast] at h0
    obtain rfl : i = (spl l).length := by omega
    refine hw_exit ?_; show HW _ _ _ _ _; refine hw_seq ?_; refine hw_freeze 3 rfl rfl rfl ?_; refine hw_region (E := TryzE) Tryzok ?_; refine rq rfl rfl rfl rfl rfl ?_
    refine rc rfl rfl rfl rfl rfl rfl good75 (cOnce (redT (spl l) (spl l).length) (by rw [redT_len]; omega)) (⟨CoC.one (co_lenF (by rw [redT_len])), trivial⟩) rfl rfl ?_; refine rq rfl rfl rfl rfl rfl ?_; refine rg_nil ?_
    show HW _ _ _ _ _; (iterate 2 refine hw_seq ?_)
    have hrl := redAll_len l
    refine hw_region (E := TryzE) Tryzok ?_; refine rq rfl rfl rfl rfl rfl ?_; refine rg_nil ?_; show HW _ _ _ _ _; refine hw_block ?_
    refine hw_loopK (ι := List Fd × Nat) ⟨[], []⟩ ⟨trivial, trivial⟩ (fun x => ⟨[(3, some (oneP (fdl x.1))), (7, some (vI x.2))], []⟩) (fun x => dropR (x.1.length - x.2) x.1 x.2 = minS l ∧ x.2 ≤ x.1.length ∧ x.1.length ≤ 131072) (fun x => x.1.length - x.2) ((redAll l, 0)) (⟨rfl, Nat.zero_le _, by show (redAll l).length ≤ _; omega⟩) ⟨⟨⟨_, rfl, (by first | exact CoR.refl _ | exact coi (by omega) | exact cob (by simp_all))⟩, ⟨_, rfl, (coi rfl)⟩, trivial⟩, trivial⟩ ?_
    rintro x ⟨hx, hx2, hx3⟩
    (iterate 2 refine hw_seq ?_); refine hw_region (E := TryzE) Tryzok ?_; (iterate 4 refine rq rfl rfl rfl rfl rfl ?_); refine rg_nil ?_; show HW _ _ _ _ _; refine hw_cond _ rfl (fun r3 => ?_) (fun r3 => ?_)
    · skip
      have h3 := r3
      have h3 := of_decide_eq_true h3
      try simp only [Int.toNat_natCast] at h3
      refine hw_skip ?_; show HW _ _ _ _ _; refine hw_block ?_; refine hw_seq ?_; refine hw_region (E := TryzE) Tryzok ?_; (iterate 2 refine rq rfl rfl rfl rfl rfl ?_)
      refine rc rfl rfl rfl rfl rfl rfl good76 (cRedun x.1 x.2 (by omega) (by omega)) (CoL.refl _) rfl rfl ?_; refine rg_nil ?_; show HW _ _ _ _ _; refine hw_cond _ rfl (fun r4 => ?_) (fun r4 => ?_)
      · skip
        have h4 := r4
        have hq := r4
        refine hw_region (E := TryzE) Tryzok ?_; (iterate 2 refine rq rfl rfl rfl rfl rfl ?_); refine rc rfl rfl rfl rfl rfl rfl good77 (cOthers x.1 x.2 (by omega) (by omega)) (CoL.refl _) rfl rfl ?_
        refine rq rfl rfl rfl rfl rfl ?_; refine rg_nil ?_
        first | (refine ⟨(othersL x.1 x.2, x.2), ?_, ?_, ?_⟩
                 · have ho := othersL_len (l := x.1) (i := x.2) (by omega)
                   exact ⟨by rw [← hx, dropR_t (by omega) hq], by dsimp only; omega, by dsimp only; omega⟩
                 · have ho := othersL_len (l := x.1) (i := x.2) (by omega)
                   dsimp only; omega
                 · exact ⟨⟨⟨_, rfl, (by first | exact CoR.refl _ | exact coi (by omega) | exact cob (by simp_all))⟩, ⟨_, rfl, (coi (by first | rfl | (dsimp only; omega)))⟩, trivial⟩, trivial⟩)
              | (refine ⟨(x.1, x.2 + 1), ?_, ?_, ?_⟩
                 · exact ⟨by rw [← hx, dropR_f (by omega) hq], by dsimp only; omega, by dsimp only; omega⟩
                 · first | omega | (dsimp only; omega)
                 · exact ⟨⟨⟨_, rfl, (by first | exact CoR.refl _ | exact coi (by omega) | exact cob (by simp_all))⟩, ⟨_, rfl, (coi (by first | rfl | (dsimp only; omega)))⟩, trivial⟩, trivial⟩)
      · skip
        have h4 := r4
        have hq := r4
        refine hw_region (E := TryzE) Tryzok ?_; (iterate 3 refine rq rfl rfl rfl rfl rfl ?_); refine rg_nil ?_
        first | (refine ⟨(othersL x.1 x.2, x.2), ?_, ?_, ?_⟩
                 · have ho := othersL_len (l := x.1) (i := x.2) (by omega)
                   exact ⟨by rw [← hx, dropR_t (by omega) hq], by dsimp only; omega, by dsimp only; omega⟩
                 · have ho := othersL_len (l := x.1) (i := x.2) (by omega)
                   dsimp only; omega
                 · exact ⟨⟨⟨_, rfl, (by first | exact CoR.refl _ | exact coi (by omega) | exact cob (by simp_all))⟩, ⟨_, rfl, (coi (by first | rfl | (dsimp only; omega)))⟩, trivial⟩, trivial⟩)
              | (refine ⟨(x.1, x.2 + 1), ?_, ?_, ?_⟩
                 · exact ⟨by rw [← hx, dropR_f (by omega) hq], by dsimp only; omega, by dsimp only; omega⟩
                 · first | omega | (dsimp only; omega)
                 · exact ⟨⟨⟨_, rfl, (by first | exact CoR.refl _ | exact coi (by omega) | exact cob (by simp_all))⟩, ⟨_, rfl, (coi (by first | rfl | (dsimp only; omega)))⟩, trivial⟩, trivial⟩)
    · skip
      have h3 := r3
      have h3 := of_decide_eq_false h3
      try simp only [Int.toNat_natCast] at h3
      have hq := h3
      refine hw_exit ?_; show HW _ _ _ _ _; refine hw_seq ?_; refine hw_region (E := TryzE) Tryzok ?_; (iterate 2 refine rq rfl rfl rfl rfl rfl ?_); refine rg_nil ?_; show HW _ _ _ _ _; refine hw_ret ?_; refine ⟨.inr rfl, ?_⟩
      exact ⟨_, _, _, _, rfl, (by (repeat' apply And.intro) <;> first | trivial | exact Nat.le_of_ble_eq_true rfl | rfl), rfl, (by (repeat' apply And.intro) <;> first | trivial | exact Nat.le_of_ble_eq_true rfl | rfl), ⟨CoC.one (CoP.of_eq (by rw [← hx, dropR_end (by omega)])), trivial⟩⟩
end Go.Hx
end
section
namespace Go.Hx
def minE (n : Int) (l : List Fd) : List Fd := if vErr n l = 0 then minS l else []
theorem minE_t {n : Int} {l : List Fd} (h : vErr n l = 0) : minE n l = minS l := if_pos h
theorem minE_f {n : Int} {l : List Fd} (h : ¬ vErr n l = 0) : minE n l = [] := if_neg h
theorem nilF {s : Nat} {cl : Bool} {f : Nat → Nat → PV} {L : List Fd} (h : L = []) : CoP (.sl 0 s cl f) (fdl L) := by subst h; exact co_nil
theorem nilS {s : Nat} {cl : Bool} {f : Nat → Nat → PV} {L : List AS} (h : L = []) : CoP (.sl 0 s cl f) (asl L) := by subst h; exact co_nil
def redR (l : List Fd) (i k : Nat) : List Fd := (List.range k).foldl (redA i) l
theorem redR_len {l : List Fd} {i k : Nat} : (redR l i k).length = l.length := foldA_len _ _
theorem redR_zero (l : List Fd) (i : Nat) : redR l i 0 = l := rfl
theorem redR_succ (l : List Fd) (i k : Nat) : redR l i (k + 1) = redA i (redR l i k) k := by
  unfold redR
  rw [List.range_succ, List.foldl_append]
  rfl
theorem redR_end {n : Int} {l : List Fd} (hv : vErr n l = 0) {i k : Nat} (hi : i < (spl l).length) (hk : k = n.toNat) : redR (redT (spl l) i) i k = redT (spl l) (i + 1) := by
  obtain ⟨h0, h1, _, _⟩ := vErr_ok hv
  rw [redT_succ]
  refine redI_range (by rw [redT_len]; exact hi) (by omega) ?_
  have := redT_in (spl_in (valid_in hv)) i
  have h2 := this ((redT (spl l) i).getD i default) (by
    rw [List.getD_eq_getElem?_getD, List.getElem?_eq_getElem (by rw [redT_len]; exact hi)]
    exact List.getElem_mem _)
  unfold fullI at h2
  rw [Nat.min_eq_left (by omega)] at h2
  rw [hk]
  exact h2
end Go.Hx
end
section
namespace Go.Hx
open Go.Proofs
set_option maxRecDepth 100000
theorem good18 : goodFn Tryz.prog 18 := ⟨Tryz.f18, Tryz.func18, by kernel_rfl, by kernel_rfl⟩
theorem cCMin (n : Int) (l : List Fd) : HPure Tryz.prog 18 [pI n, pP (fdl l)] (prOf [pP (fdl (minE n l)), pI (vErr n l)]) := by
  refine hpure_of (nt := 15) Tryzok Tryz.func18 rfl rfl (Nat.le_of_ble_eq_true rfl) ?_; refine hw_seq ?_; refine hw_region (E := TryzE) Tryzok ?_; (iterate 2 refine rq rfl rfl rfl rfl rfl ?_); refine rg_nil ?_; show HW _ _ _ _ _
  (iterate 2 refine hw_seq ?_); refine hw_region (E := TryzE) Tryzok ?_; (iterate 2 refine rq rfl rfl rfl rfl rfl ?_); refine rc rfl rfl rfl rfl rfl rfl good44 (cValid n l) (CoL.refl _) rfl rfl ?_; refine rq rfl rfl rfl rfl rfl ?_
  refine rg_nil ?_; show HW _ _ _ _ _; refine hw_seq ?_; refine hw_region (E := TryzE) Tryzok ?_; (iterate 2 refine rq rfl rfl rfl rfl rfl ?_); refine rg_nil ?_; show HW _ _ _ _ _; refine hw_cond _ rfl (fun r0 => ?_) (fun r0 => ?_)
  · skip
    have h0 := r0
    have h0 := of_decide_eq_false (not_t h0)
    try simp only [Int.toNat_natCast] at h0
    refine hw_seq ?_; refine hw_region (E := TryzE) Tryzok ?_; (iterate 3 refine rq rfl rfl rfl rfl rfl ?_); refine rg_nil ?_; show HW _ _ _ _ _; refine hw_ret ?_; refine ⟨.inr rfl, ?_⟩
    exact ⟨_, _, _, _, rfl, (by (repeat' apply And.intro) <;> first | trivial | exact Nat.le_of_ble_eq_true rfl | rfl), rfl, (by (repeat' apply And.intro) <;> first | trivial | exact Nat.le_of_ble_eq_true rfl | rfl), ⟨CoC.one (nilF (minE_f (by assumption))), CoC.refl _, trivial⟩⟩
  · skip
    have h0 := r0
    have h0 := of_decide_eq_true (not_f h0)
    try simp only [Int.toNat_natCast] at h0
    refine hw_skip ?_; show HW _ _ _ _ _; refine hw_seq ?_; refine hw_region (E := TryzE) Tryzok ?_; refine rq rfl rfl rfl rfl rfl ?_
    refine rc rfl rfl rfl rfl rfl rfl good46 (cMin l (by have := (vErr_ok (by assumption)).2.2.1; omega)) (CoL.refl _) rfl rfl ?_; (iterate 2 refine rq rfl rfl rfl rfl rfl ?_); refine rg_nil ?_; show HW _ _ _ _ _; refine hw_ret ?_
    refine ⟨.inr rfl, ?_⟩
    exact ⟨_, _, _, _, rfl, (by (repeat' apply And.intro) <;> first | trivial | exact Nat.le_of_ble_eq_true rfl | rfl), rfl, (by (repeat' apply And.intro) <;> first | trivial | exact Nat.le_of_ble_eq_true rfl | rfl), ⟨CoC.one (CoP.of_eq (by rw [minE_t (by assumption)])), cci (by omega), trivial⟩⟩
theorem good22 : goodFn Tryz.prog 22 := ⟨Tryz.f22, Tryz.func22, by kernel_rfl, by kernel_rfl⟩
theorem cRCMin (n : Int) (l : List Fd) : HPure Tryz.prog 22 [pI n, pP (fdl l)] (prOf [pP (fdl (minE n l)), pI (vErr n l)]) := by
  refine hpure_of (nt := 61) Tryzok Tryz.func22 rfl rfl (Nat.le_of_ble_eq_true rfl) ?_; refine hw_seq ?_; refine hw_region (E := TryzE) Tryzok ?_; (iterate 2 refine rq rfl rfl rfl rfl rfl ?_); refine rg_nil ?_; show HW _ _ _ _ _
  (iterate 2 refine hw_seq ?_); refine hw_region (E := TryzE) Tryzok ?_; (iterate 2 refine rq rfl rfl rfl rfl rfl ?_); refine rc rfl rfl rfl rfl rfl rfl good41 (cRValid n l) (CoL.refl _) rfl rfl ?_; refine rq rfl rfl rfl rfl rfl ?_
  refine rg_nil ?_; show HW _ _ _ _ _; refine hw_seq ?_; refine hw_region (E := TryzE) Tryzok ?_; (iterate 2 refine rq rfl rfl rfl rfl rfl ?_); refine rg_nil ?_; show HW _ _ _ _ _; refine hw_cond _ rfl (fun r0 => ?_) (fun r0 => ?_)
  · skip
    have h0 := r0
    have h0 := of_decide_eq_false (not_t h0)
    try simp only [Int.toNat_natCast] at h0
    have hv := h0
    refine hw_seq ?_; refine hw_region (E := TryzE) Tryzok ?_; (iterate 3 refine rq rfl rfl rfl rfl rfl ?_); refine rg_nil ?_; show HW _ _ _ _ _; refine hw_ret ?_; refine ⟨.inr rfl, ?_⟩
    exact ⟨_, _, _, _, rfl, (by (repeat' apply And.intro) <;> first | trivial | exact Nat.le_of_ble_eq_true rfl | rfl), rfl, (by (repeat' apply And.intro) <;> first | trivial | exact Nat.le_of_ble_eq_true rfl | rfl), ⟨CoC.one (nilF (minE_f hv)), CoC.refl _, trivial⟩⟩
  · skip
    have h0 := r0
    have h0 := of_decide_eq_true (not_f h0)
    try simp only [Int.toNat_natCast] at h0
    have hv := h0
    refine hw_skip ?_; show HW _ _ _ _ _; refine hw_seq ?_
    obtain ⟨hv0, hv1, hv2, _⟩ := vErr_ok hv
    refine hw_region (E := TryzE) Tryzok ?_; refine rq rfl rfl rfl rfl rfl ?_; refine rg_fcall rfl rfl rfl rfl rfl rfl good48 (cRSplitH l (by omega)) (CoHCL.refl _) trivial rfl rfl ?_; refine rq rfl rfl rfl rfl rfl ?_
    refine rg_nil ?_; show HW _ _ _ _ _; (iterate 2 refine hw_seq ?_)
    have hsl := spl_len l
    refine hw_region (E := TryzE) Tryzok ?_; refine rq rfl rfl rfl rfl rfl ?_; refine rg_nil ?_; show HW _ _ _ _ _; refine hw_block ?_
    refine hw_loopK (ι := Nat) ⟨[(0, some _), (7, some _)], []⟩ ⟨⟨⟨_, rfl, CoR.refl _⟩, ⟨_, rfl, CoR.refl _⟩, trivial⟩, trivial⟩ (fun i => ⟨[(8, some (vI i))], [(900, some (.arr true 2 32 (spl l).length (lf Fd.c (redT (spl l) i))))]⟩) (fun i => i ≤ (spl l).length) (fun i => (spl l).length - i) (0) (Nat.zero_le _) ⟨⟨⟨_, rfl, (by first | exact CoR.refl _ | exact coi (by omega) | exact cob (by simp_all))⟩, trivial⟩, ⟨⟨_, rfl, CoO.refl _⟩, trivial⟩⟩ ?_
    rintro i hi
    have htl := redT_len (l := spl l) (i := i)
    (iterate 2 refine hw_seq ?_); refine hw_region (E := TryzE) Tryzok ?_; (iterate 4 refine rq rfl rfl rfl rfl rfl ?_); refine rg_nil ?_; show HW _ _ _ _ _; refine hw_cond _ rfl (fun r1 => ?_) (fun r1 => ?_)
    · skip
      have h1 := r1
      have h1 := of_decide_eq_true h1
      try simp only [Int.toNat_natCast] at h1
      refine hw_skip ?_; show HW _ _ _ _ _; refine hw_seq ?_; refine hw_block ?_; refine hw_seq ?_; refine hw_region (E := TryzE) Tryzok ?_; refine rq rfl rfl rfl rfl rfl ?_; refine rg_nil ?_; show HW _ _ _ _ _; refine hw_block ?_
      refine hw_loopK (ι := Nat) ⟨[(0, some _), (7, some _), (8, some _)], []⟩ ⟨⟨⟨_, rfl, CoR.refl _⟩, ⟨_, rfl, CoR.refl _⟩, ⟨_, rfl, CoR.refl _⟩, trivial⟩, trivial⟩ (fun k => ⟨[(9, some (vI k))], [(900, some (.arr true 2 32 (spl l).length (lf Fd.c (redR (redT (spl l) i) i k))))]⟩) (fun k => k ≤ n.toNat) (fun k => n.toNat - k) (0) (Nat.zero_le _) ⟨⟨⟨_, rfl, (by first | exact CoR.refl _ | exact coi (by omega) | exact cob (by simp_all))⟩, trivial⟩, ⟨⟨_, rfl, (arr_len (redR_zero _ _) rfl)⟩, trivial⟩⟩ ?_
      rintro k hk
      (iterate 2 refine hw_seq ?_); refine hw_region (E := TryzE) Tryzok ?_; (iterate 3 refine rq rfl rfl rfl rfl rfl ?_); refine rg_nil ?_; show HW _ _ _ _ _; refine hw_cond _ rfl (fun r2 => ?_) (fun r2 => ?_)
      · skip
        have h2 := r2
        have h2 := of_decide_eq_true h2
        try simp only [Int.toNat_natCast] at h2
        have hkl : (redR (redT (spl l) i) i k).length = (spl l).length := by rw [redR_len, redT_len]
        refine hw_skip ?_; show HW _ _ _ _ _; refine hw_seq ?_; refine hw_block ?_; refine hw_seq ?_; refine hw_region (E := TryzE) Tryzok ?_; (iterate 3 refine rq rfl rfl rfl rfl rfl ?_)
        refine rc rfl rfl rfl rfl rfl rfl good49 (cRExtra (redR (redT (spl l) i) i k) i k (by omega)) (⟨CoC.one (co_lenF hkl.symm), CoC.refl _, CoC.refl _, trivial⟩) rfl rfl ?_; refine rg_nil ?_; show HW _ _ _ _ _
        refine hw_cond _ rfl (fun r3 => ?_) (fun r3 => ?_)
        · skip
          have h3 := r3
          have hx := r3
          refine hw_draw (E := TryzE) Tryzok Tryzmixed [0, 1, 2, 3, 4, 5, 6, 7, 8, 9, 10, 11, 12] ?_; (iterate 12 refine rq rfl rfl rfl rfl rfl ?_); refine rs rfl rfl rfl rfl rfl ?_; refine rg_nil ?_; refine ⟨by kernel_rfl, ?_⟩
          show HW _ _ _ _ _; refine hw_region (E := TryzE) Tryzok ?_; (iterate 3 refine rq rfl rfl rfl rfl rfl ?_); refine rg_nil ?_
          first | (refine ⟨k + 1, ?_, ?_, ?_⟩
                   · show k + 1 ≤ _; omega
                   · first | omega | (dsimp only; omega)
                   · exact ⟨⟨⟨_, rfl, (by first | exact CoR.refl _ | exact coi (by omega) | exact cob (by simp_all))⟩, ⟨_, rfl, CoR.refl _⟩, ⟨_, rfl, CoR.refl _⟩, ⟨_, rfl, CoR.refl _⟩, trivial⟩, ⟨⟨_, rfl, (co_setF (i := i) (a := k) (l := (redR (redT (spl l) i) i k)) (by rw [redR_succ, redA_tr hx]) (and_shl _ _) (by omega) (by omega) hkl.symm)⟩, trivial⟩⟩)
                | (refine ⟨k + 1, ?_, ?_, ?_⟩
                   · show k + 1 ≤ _; omega
                   · first | omega | (dsimp only; omega)
                   · exact ⟨⟨⟨_, rfl, (by first | exact CoR.refl _ | exact coi (by omega) | exact cob (by simp_all))⟩, ⟨_, rfl, CoR.refl _⟩, ⟨_, rfl, CoR.refl _⟩, ⟨_, rfl, CoR.refl _⟩, trivial⟩, ⟨⟨_, rfl, (arr_len (by rw [redR_succ, redA_fr hx]) rfl)⟩, trivial⟩⟩)
        · skip
          have h3 := r3
          have hx := r3
          refine hw_skip ?_; show HW _ _ _ _ _; refine hw_region (E := TryzE) Tryzok ?_; (iterate 3 refine rq rfl rfl rfl rfl rfl ?_); refine rg_nil ?_
          first | (refine ⟨k + 1, ?_, ?_, ?_⟩
                   · show k + 1 ≤ _; omega
                   · first | omega | (dsimp only; omega)
                   · exact ⟨⟨⟨_, rfl, (by first | exact CoR.refl _ | exact coi (by omega) | exact cob (by simp_all))⟩, ⟨_, rfl, CoR.refl _⟩, ⟨_, rfl, CoR.refl _⟩, ⟨_, rfl, CoR.refl _⟩, trivial⟩, ⟨⟨_, rfl, (co_setF (i := i) (a := k) (l := (redR (redT (spl l) i) i k)) (by rw [redR_succ, redA_tr hx]) (and_shl _ _) (by omega) (by omega) hkl.symm)⟩, trivial⟩⟩)
                | (refine ⟨k + 1, ?_, ?_, ?_⟩
                   · show k + 1 ≤ _; omega
                   · first | omega | (dsimp only; omega)
                   · exact ⟨⟨⟨_, rfl, (by first | exact CoR.refl _ | exact coi (by omega) | exact cob (by simp_all))⟩, ⟨_, rfl, CoR.refl _⟩, ⟨_, rfl, CoR.refl _⟩, ⟨_, rfl, CoR.refl _⟩, trivial⟩, ⟨⟨_, rfl, (arr_len (by rw [redR_succ, redA_fr hx]) rfl)⟩, trivial⟩⟩)
      · skip
        have h2 := r2
        have h2 := of_decide_eq_false h2
        try simp only [Int.toNat_natCast] at h2
        obtain rfl : k = n.toNat := by omega
        refine hw_exit ?_; show HW _ _ _ _ _; refine hw_region (E := TryzE) Tryzok ?_; (iterate 3 refine rq rfl rfl rfl rfl rfl ?_); refine rg_nil ?_; refine ⟨i + 1, ?_, ?_, ?_⟩
        · show i + 1 ≤ _; omega
        · first | omega | (dsimp only; omega)
        · exact ⟨⟨⟨_, rfl, (by first | exact CoR.refl _ | exact coi (by omega) | exact cob (by simp_all))⟩, ⟨_, rfl, CoR.refl _⟩, ⟨_, rfl, CoR.refl _⟩, trivial⟩, ⟨⟨_, rfl, (arr_len (redR_end hv (by omega) rfl).symm rfl)⟩, trivial⟩⟩
    · skip
      have h1 := r1
      have h1 := of_decide_eq_false h1
      try simp only [Int.toNat_natCast] at h1
      obtain rfl : i = (spl l).length := by omega
      refine hw_exit ?_; show HW _ _ _ _ _; refine hw_seq ?_; refine hw_freeze 7 rfl rfl rfl ?_; refine hw_region (E := TryzE) Tryzok ?_; refine rq rfl rfl rfl rfl rfl ?_
      refine rc rfl rfl rfl rfl rfl rfl good50 (cROnce (redT (spl l) (spl l).length) (by rw [redT_len]; omega)) (⟨CoC.one (co_lenF (by rw [redT_len])), trivial⟩) rfl rfl ?_; refine rq rfl rfl rfl rfl rfl ?_; refine rg_nil ?_
      show HW _ _ _ _ _; (iterate 2 refine hw_seq ?_)
      have hrl := redAll_len l
      refine hw_region (E := TryzE) Tryzok ?_; refine rq rfl rfl rfl rfl rfl ?_; refine rg_nil ?_; show HW _ _ _ _ _; refine hw_block ?_
      refine hw_loopK (ι := List Fd × Nat) ⟨[], []⟩ ⟨trivial, trivial⟩ (fun x => ⟨[(7, some (oneP (fdl x.1))), (10, some (vI x.2))], []⟩) (fun x => dropR (x.1.length - x.2) x.1 x.2 = minS l ∧ x.2 ≤ x.1.length ∧ x.1.length ≤ 131072) (fun x => x.1.length - x.2) ((redAll l, 0)) (⟨rfl, Nat.zero_le _, by show (redAll l).length ≤ _; omega⟩) ⟨⟨⟨_, rfl, (by first | exact CoR.refl _ | exact coi (by omega) | exact cob (by simp_all))⟩, ⟨_, rfl, (coi rfl)⟩, trivial⟩, trivial⟩ ?_
      rintro x ⟨hx, hx2, hx3⟩
      (iterate 2 refine hw_seq ?_); refine hw_region (E := TryzE) Tryzok ?_; (iterate 4 refine rq rfl rfl rfl rfl rfl ?_); refine rg_nil ?_; show HW _ _ _ _ _; refine hw_cond _ rfl (fun r4 => ?_) (fun r4 => ?_)
      · skip
        have h4 := r4
        have h4 := of_decide_eq_true h4
        try simp only [Int.toNat_natCast] at h4
        refine hw_skip ?_; show HW _ _ _ _ _; refine hw_block ?_; refine hw_seq ?_; refine hw_region (E := TryzE) Tryzok ?_; (iterate 2 refine rq rfl rfl rfl rfl rfl ?_)
        refine rc rfl rfl rfl rfl rfl rfl good51 (cRRedun x.1 x.2 (by omega) (by omega)) (CoL.refl _) rfl rfl ?_; refine rg_nil ?_; show HW _ _ _ _ _; refine hw_cond _ rfl (fun r5 => ?_) (fun r5 => ?_)
        · skip
          have h5 := r5
          have hq := r5
          refine hw_region (E := TryzE) Tryzok ?_; (iterate 2 refine rq rfl rfl rfl rfl rfl ?_); refine rc rfl rfl rfl rfl rfl rfl good52 (cROthers x.1 x.2 (by omega) (by omega)) (CoL.refl _) rfl rfl ?_
          refine rq rfl rfl rfl rfl rfl ?_; refine rg_nil ?_
          first | (refine ⟨(othersL x.1 x.2, x.2), ?_, ?_, ?_⟩
                   · have ho := othersL_len (l := x.1) (i := x.2) (by omega)
                     exact ⟨by rw [← hx, dropR_t (by omega) hq], by dsimp only; omega, by dsimp only; omega⟩
                   · have ho := othersL_len (l := x.1) (i := x.2) (by omega)
                     dsimp only; omega
                   · exact ⟨⟨⟨_, rfl, (by first | exact CoR.refl _ | exact coi (by omega) | exact cob (by simp_all))⟩, ⟨_, rfl, (coi (by first | rfl | (dsimp only; omega)))⟩, trivial⟩, trivial⟩)
                | (refine ⟨(x.1, x.2 + 1), ?_, ?_, ?_⟩
                   · exact ⟨by rw [← hx, dropR_f (by omega) hq], by dsimp only; omega, by dsimp only; omega⟩
                   · first | omega | (dsimp only; omega)
                   · exact ⟨⟨⟨_, rfl, (by first | exact CoR.refl _ | exact coi (by omega) | exact cob (by simp_all))⟩, ⟨_, rfl, (coi (by first | rfl | (dsimp only; omega)))⟩, trivial⟩, trivial⟩)
        · skip
          have h5 := r5
          have hq := r5
          refine hw_region (E := TryzE) Tryzok ?_; (iterate 3 refine rq rfl rfl rfl rfl rfl ?_); refine rg_nil ?_
          first | (refine ⟨(othersL x.1 x.2, x.2), ?_, ?_, ?_⟩
                   · have ho := othersL_len (l := x.1) (i := x.2) (by omega)
                     exact ⟨by rw [← hx, dropR_t (by omega) hq], by dsimp only; omega, by dsimp only; omega⟩
                   · have ho := othersL_len (l := x.1) (i := x.2) (by omega)
                     dsimp only; omega
                   · exact ⟨⟨⟨_, rfl, (by first | exact CoR.refl _ | exact coi (by omega) | exact cob (by simp_all))⟩, ⟨_, rfl, (coi (by first | rfl | (dsimp only; omega)))⟩, trivial⟩, trivial⟩)
                | (refine ⟨(x.1, x.2 + 1), ?_, ?_, ?_⟩
                   · exact ⟨by rw [← hx, dropR_f (by omega) hq], by dsimp only; omega, by dsimp only; omega⟩
                   · first | omega | (dsimp only; omega)
                   · exact ⟨⟨⟨_, rfl, (by first | exact CoR.refl _ | exact coi (by omega) | exact cob (by simp_all))⟩, ⟨_, rfl, (coi (by first | rfl | (dsimp only; omega)))⟩, trivial⟩, trivial⟩)
      · skip
        have h4 := r4
        have h4 := of_decide_eq_false h4
        try simp only [Int.toNat_natCast] at h4
        have hq := h4
        refine hw_exit ?_; show HW _ _ _ _ _; refine hw_seq ?_; refine hw_region (E := TryzE) Tryzok ?_; (iterate 3 refine rq rfl rfl rfl rfl rfl ?_); refine rg_nil ?_; show HW _ _ _ _ _; refine hw_ret ?_; refine ⟨.inr rfl, ?_⟩
        exact ⟨_, _, _, _, rfl, (by (repeat' apply And.intro) <;> first | trivial | exact Nat.le_of_ble_eq_true rfl | rfl), rfl, (by (repeat' apply And.intro) <;> first | trivial | exact Nat.le_of_ble_eq_true rfl | rfl), ⟨CoC.one (CoP.of_eq (by rw [minE_t hv, ← hx, dropR_end (by omega)])), cci (by omega), trivial⟩⟩
end Go.Hx
end
