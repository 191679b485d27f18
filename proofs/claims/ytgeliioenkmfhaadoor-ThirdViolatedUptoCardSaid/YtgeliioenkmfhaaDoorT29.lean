/- A part of the proof: lemmas for the theorem of this claim, merged by a program of ours out of V27, Cs29, V28, Cs30. -/
import Derived.Test.YtgeliioenkmfhaaDoorT28
set_option linter.all false
section
namespace Go.Hx
open Go.Proofs
set_option maxRecDepth 100000
theorem good87 : goodFn Tryd.prog 87 := ⟨Tryd.f87, Tryd.func87, by kernel_rfl, by kernel_rfl⟩
theorem cExtreme (n : Int) (l : List Fd) (hv : vErr n l = 0) : HPure Tryd.prog 87 [pI n, pP (psl 1 bC (supL n l)), pB true] (prOf [pP (asl (ord (keysT n l (2 ^ n.toNat))))]) := by
  refine hpure_of (nt := 57) Trydok Tryd.func87 rfl rfl (Nat.le_of_ble_eq_true rfl) ?_; refine hw_seq ?_; refine hw_region (E := TrydE) Trydok ?_; refine rq rfl rfl rfl rfl rfl ?_; refine rg_nil ?_; show HW _ _ _ _ _
  refine hw_seq ?_
  have hv0 := vErr_ok hv
  have hsl := supL_len n l
  have hpw : 2 ^ n.toNat ≤ 2 ^ 16 := Nat.pow_le_pow_right (by omega) (by omega)
  refine hw_region (E := TrydE) Trydok ?_; refine rq rfl rfl rfl rfl rfl ?_; refine rg_nil ?_; show HW _ _ _ _ _; (iterate 2 refine hw_seq ?_); refine hw_region (E := TrydE) Trydok ?_; (iterate 3 refine rq rfl rfl rfl rfl rfl ?_)
  refine rg_nil ?_; show HW _ _ _ _ _; refine hw_block ?_; refine hw_adopt 7 900 true 1 30 (lf sC []) (by decide) rfl (CoP.sl rfl (.inr rfl) (fun h => h) (fun i j hi _ => absurd hi (Nat.not_lt_zero i))) (.inr rfl) rfl ?_
  refine hw_loopK (ι := Nat) ⟨[(0, some _), (1, some _), (2, some _), (13, some _), (14, some _)], []⟩ ⟨⟨⟨_, rfl, CoR.refl _⟩, ⟨_, rfl, CoR.refl _⟩, ⟨_, rfl, CoR.refl _⟩, ⟨_, rfl, CoR.refl _⟩, ⟨_, rfl, CoR.refl _⟩, trivial⟩, trivial⟩ (fun i => ⟨[(7, some (.v (.one (.ref 900 (keysT n l i).length)))), (15, some (vI i))], [(900, some (.arr true 1 30 (keysT n l i).length (lf sC (keysT n l i))))]⟩) (fun i => i ≤ 2 ^ n.toNat) (fun i => 2 ^ n.toNat - i) (0) (Nat.zero_le _) ⟨⟨⟨_, rfl, (by first | exact CoR.refl _ | exact coi (by omega) | exact cob (by simp_all))⟩, ⟨_, rfl, (by first | exact CoR.refl _ | exact coi (by omega) | exact cob (by simp_all))⟩, trivial⟩, ⟨⟨_, rfl, CoO.refl _⟩, trivial⟩⟩ ?_
  rintro i hi
  have hlen := keysT_len n l i
  refine hw_seq ?_; refine hw_region (E := TrydE) Trydok ?_; refine rq rfl rfl rfl rfl rfl ?_; refine rg_nil ?_; show HW _ _ _ _ _; refine hw_seq ?_; refine hw_cond _ rfl (fun r0 => ?_) (fun r0 => ?_)
  · skip
    have h0 := r0
    have h0 := of_decide_eq_true h0
    try simp only [Int.toNat_natCast] at h0
    have hi2 : i < 2 ^ n.toNat := by omega
    refine hw_skip ?_; show HW _ _ _ _ _; refine hw_seq ?_; refine hw_block ?_; refine hw_seq ?_; refine hw_region (E := TrydE) Trydok ?_; (iterate 5 refine rq rfl rfl rfl rfl rfl ?_); refine rg_nil ?_; show HW _ _ _ _ _
    refine hw_seq ?_; refine hw_region (E := TrydE) Trydok ?_; (iterate 4 refine rq rfl rfl rfl rfl rfl ?_); refine rg_nil ?_; show HW _ _ _ _ _; (iterate 2 refine hw_seq ?_); refine hw_region (E := TrydE) Trydok ?_
    refine rq rfl rfl rfl rfl rfl ?_; refine rg_nil ?_; show HW _ _ _ _ _; refine hw_block ?_
    refine hw_loopK (ι := Nat) ⟨[(0, some _), (1, some _), (2, some _), (7, some _), (8, some _), (13, some _), (14, some _), (15, some _)], [(900, some _)]⟩ ⟨⟨⟨_, rfl, CoR.refl _⟩, ⟨_, rfl, CoR.refl _⟩, ⟨_, rfl, CoR.refl _⟩, ⟨_, rfl, CoR.refl _⟩, ⟨_, rfl, CoR.refl _⟩, ⟨_, rfl, CoR.refl _⟩, ⟨_, rfl, CoR.refl _⟩, ⟨_, rfl, CoR.refl _⟩, trivial⟩, ⟨⟨_, rfl, CoO.refl _⟩, trivial⟩⟩ (fun a => ⟨[(10, some (vB (okA n l i a))), (11, some (vI a))], []⟩) (fun a => a ≤ n.toNat) (fun a => n.toNat - a) (0) (Nat.zero_le _) ⟨⟨⟨_, rfl, (cob (okA_0 hi2))⟩, ⟨_, rfl, (by first | exact CoR.refl _ | exact coi (by omega) | exact cob (by simp_all))⟩, trivial⟩, trivial⟩ ?_
    rintro a ha
    (iterate 2 refine hw_seq ?_); refine hw_region (E := TrydE) Trydok ?_; (iterate 4 refine rq rfl rfl rfl rfl rfl ?_); refine rsplit rfl rfl (fun r1 => ?_) (fun r1 => ?_)
    · skip
      have h1 := r1
      have h1 := of_decide_eq_true h1
      try simp only [Int.toNat_natCast] at h1
      refine rq rfl rfl rfl rfl (gtt r1) ?_; refine rq rfl rfl rfl rfl rfl ?_; refine rg_nil ?_; show HW _ _ _ _ _; refine hw_cond _ rfl (fun r2 => ?_) (fun r2 => ?_)
      · skip
        have h2 := r2
        have h2 := bif_t r1 h2
        have hx := xor_small (n := n) (i := i) (a := a) (by omega) (by omega)
        refine hw_skip ?_; show HW _ _ _ _ _; refine hw_seq ?_; refine hw_block ?_; refine hw_seq ?_; refine hw_region (E := TrydE) Trydok ?_; (iterate 5 refine rq rfl rfl rfl rfl rfl ?_); refine rg_nil ?_; show HW _ _ _ _ _
        refine hw_seq ?_
        refine hw_clean ⟨[(0, some _), (1, some _), (2, some _), (7, some _), (8, some _), (10, some _), (11, some _), (12, some (vI ((i ^^^ 2 ^ a : Nat) : Int))), (13, some _), (14, some _), (15, some _)], [(900, some _)]⟩ ⟨⟨⟨_, rfl, CoR.refl _⟩, ⟨_, rfl, CoR.refl _⟩, ⟨_, rfl, CoR.refl _⟩, ⟨_, rfl, CoR.refl _⟩, ⟨_, rfl, CoR.refl _⟩, ⟨_, rfl, CoR.refl _⟩, ⟨_, rfl, CoR.refl _⟩, ⟨_, rfl, coi (xor_v (by omega) (by omega))⟩, ⟨_, rfl, CoR.refl _⟩, ⟨_, rfl, CoR.refl _⟩, ⟨_, rfl, CoR.refl _⟩, trivial⟩, ⟨⟨_, rfl, CoO.refl _⟩, trivial⟩⟩ ?_
        refine hw_region (E := TrydE) Trydok ?_; (iterate 6 refine rq rfl rfl rfl rfl rfl ?_); refine rsplit rfl rfl (fun r3 => ?_) (fun r3 => ?_)
        · skip
          have h3 := r3
          (iterate 6 refine rq rfl rfl rfl rfl (gtt r3) ?_); refine rq rfl rfl rfl rfl rfl ?_; refine rg_nil ?_; show HW _ _ _ _ _; refine hw_cond _ rfl (fun r4 => ?_) (fun r4 => ?_)
          · skip
            have h4 := r4
            have h4 := bif_t r3 h4
            refine hw_region (E := TrydE) Trydok ?_; refine rq rfl rfl rfl rfl rfl ?_; refine rg_nil ?_; show HW _ _ _ _ _; refine hw_region (E := TrydE) Trydok ?_; (iterate 3 refine rq rfl rfl rfl rfl rfl ?_); refine rg_nil ?_
            refine ⟨a + 1, ?_, ?_, ?_⟩
            · show a + 1 ≤ _; omega
            · first | omega | (dsimp only; omega)
            · exact ⟨⟨⟨_, rfl, (cob (by first | exact okA_t hv hi2 (by assumption) hx (by assumption) (by assumption) | exact okA_f hv hi2 (by assumption) hx (.inr (by assumption)) | exact okA_f hv hi2 (by assumption) hx (.inl (by assumption))))⟩, ⟨_, rfl, (by first | exact CoR.refl _ | exact coi (by omega) | exact cob (by simp_all))⟩, ⟨_, rfl, CoR.refl _⟩, ⟨_, rfl, CoR.refl _⟩, ⟨_, rfl, CoR.refl _⟩, ⟨_, rfl, CoR.refl _⟩, ⟨_, rfl, CoR.refl _⟩, ⟨_, rfl, CoR.refl _⟩, ⟨_, rfl, CoR.refl _⟩, ⟨_, rfl, CoR.refl _⟩, trivial⟩, ⟨⟨_, rfl, CoO.refl _⟩, trivial⟩⟩
          · skip
            have h4 := r4
            have h4 := bif_t r3 h4
            refine hw_skip ?_; show HW _ _ _ _ _; refine hw_region (E := TrydE) Trydok ?_; (iterate 3 refine rq rfl rfl rfl rfl rfl ?_); refine rg_nil ?_; refine ⟨a + 1, ?_, ?_, ?_⟩
            · show a + 1 ≤ _; omega
            · first | omega | (dsimp only; omega)
            · exact ⟨⟨⟨_, rfl, (cob (by first | exact okA_t hv hi2 (by assumption) hx (by assumption) (by assumption) | exact okA_f hv hi2 (by assumption) hx (.inr (by assumption)) | exact okA_f hv hi2 (by assumption) hx (.inl (by assumption))))⟩, ⟨_, rfl, (by first | exact CoR.refl _ | exact coi (by omega) | exact cob (by simp_all))⟩, ⟨_, rfl, CoR.refl _⟩, ⟨_, rfl, CoR.refl _⟩, ⟨_, rfl, CoR.refl _⟩, ⟨_, rfl, CoR.refl _⟩, ⟨_, rfl, CoR.refl _⟩, ⟨_, rfl, CoR.refl _⟩, ⟨_, rfl, CoR.refl _⟩, ⟨_, rfl, CoR.refl _⟩, trivial⟩, ⟨⟨_, rfl, CoO.refl _⟩, trivial⟩⟩
        · skip
          have h3 := r3
          (iterate 6 refine rk rfl rfl rfl (gft r3) ?_); refine rq rfl rfl rfl rfl rfl ?_ (hp := r3); refine rg_nil ?_; show HW _ _ _ _ _; refine hw_cond _ rfl (fun e => by cases e) (fun _ => ?_); refine hw_skip ?_
          show HW _ _ _ _ _; refine hw_region (E := TrydE) Trydok ?_; (iterate 3 refine rq rfl rfl rfl rfl rfl ?_); refine rg_nil ?_; refine ⟨a + 1, ?_, ?_, ?_⟩
          · show a + 1 ≤ _; omega
          · first | omega | (dsimp only; omega)
          · exact ⟨⟨⟨_, rfl, (cob (by first | exact okA_t hv hi2 (by assumption) hx (by assumption) (by assumption) | exact okA_f hv hi2 (by assumption) hx (.inr (by assumption)) | exact okA_f hv hi2 (by assumption) hx (.inl (by assumption))))⟩, ⟨_, rfl, (by first | exact CoR.refl _ | exact coi (by omega) | exact cob (by simp_all))⟩, ⟨_, rfl, CoR.refl _⟩, ⟨_, rfl, CoR.refl _⟩, ⟨_, rfl, CoR.refl _⟩, ⟨_, rfl, CoR.refl _⟩, ⟨_, rfl, CoR.refl _⟩, ⟨_, rfl, CoR.refl _⟩, ⟨_, rfl, CoR.refl _⟩, ⟨_, rfl, CoR.refl _⟩, trivial⟩, ⟨⟨_, rfl, CoO.refl _⟩, trivial⟩⟩
      · skip
        have h2 := r2
        have h2 := bif_t r1 h2
        refine hw_exit ?_; show HW _ _ _ _ _; refine hw_seq ?_; refine hw_region (E := TrydE) Trydok ?_; refine rq rfl rfl rfl rfl rfl ?_; refine rg_nil ?_; show HW _ _ _ _ _; refine hw_cond _ rfl (fun r5 => ?_) (fun r5 => ?_)
        · skip
          have h5 := r5
          refine hw_region (E := TrydE) Trydok ?_; (iterate 3 refine rq rfl rfl rfl rfl rfl ?_); refine rm 0 rfl rfl rfl rfl rfl rfl ?_; refine ra 1 true rfl rfl rfl rfl rfl rfl ?_; refine rq rfl rfl rfl rfl rfl ?_; refine rg_nil ?_
          show HW _ _ _ _ _; refine hw_region (E := TrydE) Trydok ?_; (iterate 2 refine rq rfl rfl rfl rfl rfl ?_); refine rg_nil ?_
          first | (refine ⟨i + 1, ?_, ?_, ?_⟩
                   · show i + 1 ≤ _; omega
                   · first | omega | (dsimp only; omega)
                   · exact ⟨⟨⟨_, rfl, (ref_app (keysT_t (by first | exact key_tt hv hi2 ha (by assumption) (by assumption) | exact key_no (by assumption) (by assumption))))⟩, ⟨_, rfl, (by first | exact CoR.refl _ | exact coi (by omega) | exact cob (by simp_all))⟩, ⟨_, rfl, CoR.refl _⟩, ⟨_, rfl, CoR.refl _⟩, ⟨_, rfl, CoR.refl _⟩, ⟨_, rfl, CoR.refl _⟩, ⟨_, rfl, CoR.refl _⟩, trivial⟩, ⟨⟨_, rfl, (arr_app1 (keysT_t (by first | exact key_tt hv hi2 ha (by assumption) (by assumption) | exact key_no (by assumption) (by assumption))) (CoP.of_eq (congrArg (fun z => PV.raw (.int .u32 z)) (set_u64 (by omega)))))⟩, trivial⟩⟩)
                | (refine ⟨i + 1, ?_, ?_, ?_⟩
                   · show i + 1 ≤ _; omega
                   · first | omega | (dsimp only; omega)
                   · exact ⟨⟨⟨_, rfl, (ref_same (keysT_f (okA_false hv hi2 ha (by assumption))))⟩, ⟨_, rfl, (by first | exact CoR.refl _ | exact coi (by omega) | exact cob (by simp_all))⟩, ⟨_, rfl, CoR.refl _⟩, ⟨_, rfl, CoR.refl _⟩, ⟨_, rfl, CoR.refl _⟩, ⟨_, rfl, CoR.refl _⟩, ⟨_, rfl, CoR.refl _⟩, trivial⟩, ⟨⟨_, rfl, (arr_same (keysT_f (okA_false hv hi2 ha (by assumption))))⟩, trivial⟩⟩)
        · skip
          have h5 := r5
          refine hw_skip ?_; show HW _ _ _ _ _; refine hw_region (E := TrydE) Trydok ?_; (iterate 2 refine rq rfl rfl rfl rfl rfl ?_); refine rg_nil ?_
          first | (refine ⟨i + 1, ?_, ?_, ?_⟩
                   · show i + 1 ≤ _; omega
                   · first | omega | (dsimp only; omega)
                   · exact ⟨⟨⟨_, rfl, (ref_app (keysT_t (by first | exact key_tt hv hi2 ha (by assumption) (by assumption) | exact key_no (by assumption) (by assumption))))⟩, ⟨_, rfl, (by first | exact CoR.refl _ | exact coi (by omega) | exact cob (by simp_all))⟩, ⟨_, rfl, CoR.refl _⟩, ⟨_, rfl, CoR.refl _⟩, ⟨_, rfl, CoR.refl _⟩, ⟨_, rfl, CoR.refl _⟩, ⟨_, rfl, CoR.refl _⟩, trivial⟩, ⟨⟨_, rfl, (arr_app1 (keysT_t (by first | exact key_tt hv hi2 ha (by assumption) (by assumption) | exact key_no (by assumption) (by assumption))) (CoP.of_eq (congrArg (fun z => PV.raw (.int .u32 z)) (set_u64 (by omega)))))⟩, trivial⟩⟩)
                | (refine ⟨i + 1, ?_, ?_, ?_⟩
                   · show i + 1 ≤ _; omega
                   · first | omega | (dsimp only; omega)
                   · exact ⟨⟨⟨_, rfl, (ref_same (keysT_f (okA_false hv hi2 ha (by assumption))))⟩, ⟨_, rfl, (by first | exact CoR.refl _ | exact coi (by omega) | exact cob (by simp_all))⟩, ⟨_, rfl, CoR.refl _⟩, ⟨_, rfl, CoR.refl _⟩, ⟨_, rfl, CoR.refl _⟩, ⟨_, rfl, CoR.refl _⟩, ⟨_, rfl, CoR.refl _⟩, trivial⟩, ⟨⟨_, rfl, (arr_same (keysT_f (okA_false hv hi2 ha (by assumption))))⟩, trivial⟩⟩)
    · skip
      have h1 := r1
      have h1 := of_decide_eq_false h1
      try simp only [Int.toNat_natCast] at h1
      refine rk rfl rfl rfl (gft r1) ?_; refine rq rfl rfl rfl rfl rfl ?_ (hp := r1); refine rg_nil ?_; show HW _ _ _ _ _; refine hw_cond _ rfl (fun e => by cases e) (fun _ => ?_); refine hw_exit ?_; show HW _ _ _ _ _
      refine hw_seq ?_; refine hw_region (E := TrydE) Trydok ?_; refine rq rfl rfl rfl rfl rfl ?_; refine rg_nil ?_; show HW _ _ _ _ _; refine hw_cond _ rfl (fun r6 => ?_) (fun r6 => ?_)
      · skip
        have h6 := r6
        refine hw_region (E := TrydE) Trydok ?_; (iterate 3 refine rq rfl rfl rfl rfl rfl ?_); refine rm 2 rfl rfl rfl rfl rfl rfl ?_; refine ra 3 true rfl rfl rfl rfl rfl rfl ?_; refine rq rfl rfl rfl rfl rfl ?_; refine rg_nil ?_
        show HW _ _ _ _ _; refine hw_region (E := TrydE) Trydok ?_; (iterate 2 refine rq rfl rfl rfl rfl rfl ?_); refine rg_nil ?_
        first | (refine ⟨i + 1, ?_, ?_, ?_⟩
                 · show i + 1 ≤ _; omega
                 · first | omega | (dsimp only; omega)
                 · exact ⟨⟨⟨_, rfl, (ref_app (keysT_t (by first | exact key_tt hv hi2 ha (by assumption) (by assumption) | exact key_no (by assumption) (by assumption))))⟩, ⟨_, rfl, (by first | exact CoR.refl _ | exact coi (by omega) | exact cob (by simp_all))⟩, ⟨_, rfl, CoR.refl _⟩, ⟨_, rfl, CoR.refl _⟩, ⟨_, rfl, CoR.refl _⟩, ⟨_, rfl, CoR.refl _⟩, ⟨_, rfl, CoR.refl _⟩, trivial⟩, ⟨⟨_, rfl, (arr_app1 (keysT_t (by first | exact key_tt hv hi2 ha (by assumption) (by assumption) | exact key_no (by assumption) (by assumption))) (CoP.of_eq (congrArg (fun z => PV.raw (.int .u32 z)) (set_u64 (by omega)))))⟩, trivial⟩⟩)
              | (refine ⟨i + 1, ?_, ?_, ?_⟩
                 · show i + 1 ≤ _; omega
                 · first | omega | (dsimp only; omega)
                 · exact ⟨⟨⟨_, rfl, (ref_same (keysT_f (okA_false hv hi2 ha (by assumption))))⟩, ⟨_, rfl, (by first | exact CoR.refl _ | exact coi (by omega) | exact cob (by simp_all))⟩, ⟨_, rfl, CoR.refl _⟩, ⟨_, rfl, CoR.refl _⟩, ⟨_, rfl, CoR.refl _⟩, ⟨_, rfl, CoR.refl _⟩, ⟨_, rfl, CoR.refl _⟩, trivial⟩, ⟨⟨_, rfl, (arr_same (keysT_f (okA_false hv hi2 ha (by assumption))))⟩, trivial⟩⟩)
      · skip
        have h6 := r6
        refine hw_skip ?_; show HW _ _ _ _ _; refine hw_region (E := TrydE) Trydok ?_; (iterate 2 refine rq rfl rfl rfl rfl rfl ?_); refine rg_nil ?_
        first | (refine ⟨i + 1, ?_, ?_, ?_⟩
                 · show i + 1 ≤ _; omega
                 · first | omega | (dsimp only; omega)
                 · exact ⟨⟨⟨_, rfl, (ref_app (keysT_t (by first | exact key_tt hv hi2 ha (by assumption) (by assumption) | exact key_no (by assumption) (by assumption))))⟩, ⟨_, rfl, (by first | exact CoR.refl _ | exact coi (by omega) | exact cob (by simp_all))⟩, ⟨_, rfl, CoR.refl _⟩, ⟨_, rfl, CoR.refl _⟩, ⟨_, rfl, CoR.refl _⟩, ⟨_, rfl, CoR.refl _⟩, ⟨_, rfl, CoR.refl _⟩, trivial⟩, ⟨⟨_, rfl, (arr_app1 (keysT_t (by first | exact key_tt hv hi2 ha (by assumption) (by assumption) | exact key_no (by assumption) (by assumption))) (CoP.of_eq (congrArg (fun z => PV.raw (.int .u32 z)) (set_u64 (by omega)))))⟩, trivial⟩⟩)
              | (refine ⟨i + 1, ?_, ?_, ?_⟩
                 · show i + 1 ≤ _; omega
                 · first | omega | (dsimp only; omega)
                 · exact ⟨⟨⟨_, rfl, (ref_same (keysT_f (okA_false hv hi2 ha (by assumption))))⟩, ⟨_, rfl, (by first | exact CoR.refl _ | exact coi (by omega) | exact cob (by simp_all))⟩, ⟨_, rfl, CoR.refl _⟩, ⟨_, rfl, CoR.refl _⟩, ⟨_, rfl, CoR.refl _⟩, ⟨_, rfl, CoR.refl _⟩, ⟨_, rfl, CoR.refl _⟩, trivial⟩, ⟨⟨_, rfl, (arr_same (keysT_f (okA_false hv hi2 ha (by assumption))))⟩, trivial⟩⟩)
  · skip
    have h0 := r0
    have h0 := of_decide_eq_false h0
    try simp only [Int.toNat_natCast] at h0
    obtain rfl : i = 2 ^ n.toNat := by omega
    refine hw_exit ?_; show HW _ _ _ _ _; refine hw_seq ?_; refine hw_freeze 7 rfl rfl rfl ?_; refine hw_region (E := TrydE) Trydok ?_; refine rq rfl rfl rfl rfl rfl ?_
    refine rc rfl rfl rfl rfl rfl rfl good112 (cOrder (keysT n l (2 ^ n.toNat)) (by omega)) (CoL.refl _) rfl rfl ?_; refine rq rfl rfl rfl rfl rfl ?_; refine rg_nil ?_; show HW _ _ _ _ _; refine hw_ret ?_; refine ⟨.inr rfl, ?_⟩
    exact ⟨_, _, _, _, rfl, (by (repeat' apply And.intro) <;> first | trivial | exact Nat.le_of_ble_eq_true rfl | rfl), rfl, (by (repeat' apply And.intro) <;> first | trivial | exact Nat.le_of_ble_eq_true rfl | rfl), CoL.refl _⟩
end Go.Hx
end
section
namespace Go.Hx
theorem keysL_len (n : Int) (l : List Fd) : (keysL n l).length ≤ 65536 := by
  unfold keysL
  split
  · rename_i h
    have h1 := ord_len (keysT n l (2 ^ n.toNat))
    have h2 := keysT_len n l (2 ^ n.toNat)
    have h3 := (vErr_ok h)
    have h4 : 2 ^ n.toNat ≤ 2 ^ 16 := Nat.pow_le_pow_right (by omega) (by omega)
    omega
  · simp
theorem has_yes {s : AS} {i : Nat} (h : i < 32) (hh : hasI s i = true) : s.getLsbD i = true := by rwa [hasI_nat h] at hh
theorem has_no1 {s : AS} {i : Nat} {b : Bool} (h : i < 32) (hh : hasI s i = false) : (s.getLsbD i && b) = false := by
  rw [hasI_nat h] at hh
  rw [hh]; rfl
theorem has_no2 {s : AS} {i : Nat} {b : Bool} (hh : b = false) : (s.getLsbD i && b) = false := by rw [hh]; simp
end Go.Hx
end
section
namespace Go.Hx
open Go.Proofs
set_option maxRecDepth 100000
theorem good45 : goodFn Tryd.prog 45 := ⟨Tryd.f45, Tryd.func45, by kernel_rfl, by kernel_rfl⟩
theorem cKAll (n : Int) (l : List Fd) : HPure Tryd.prog 45 [pI n, pP (fdl l)] (prOf [pP (asl (keysL n l)), pI (vErr n l)]) := by
  refine hpure_of (nt := 18) Trydok Tryd.func45 rfl rfl (Nat.le_of_ble_eq_true rfl) ?_; refine hw_seq ?_; refine hw_region (E := TrydE) Trydok ?_; (iterate 2 refine rq rfl rfl rfl rfl rfl ?_); refine rg_nil ?_; show HW _ _ _ _ _
  (iterate 2 refine hw_seq ?_); refine hw_region (E := TrydE) Trydok ?_; (iterate 2 refine rq rfl rfl rfl rfl rfl ?_); refine rc rfl rfl rfl rfl rfl rfl good65 (cValid n l) (CoL.refl _) rfl rfl ?_; refine rq rfl rfl rfl rfl rfl ?_
  refine rg_nil ?_; show HW _ _ _ _ _; refine hw_seq ?_; refine hw_region (E := TrydE) Trydok ?_; (iterate 2 refine rq rfl rfl rfl rfl rfl ?_); refine rg_nil ?_; show HW _ _ _ _ _; refine hw_cond _ rfl (fun r0 => ?_) (fun r0 => ?_)
  · skip
    have h0 := r0
    have h0 := of_decide_eq_false (not_t h0)
    try simp only [Int.toNat_natCast] at h0
    refine hw_seq ?_; refine hw_region (E := TrydE) Trydok ?_; (iterate 3 refine rq rfl rfl rfl rfl rfl ?_); refine rg_nil ?_; show HW _ _ _ _ _; refine hw_ret ?_; refine ⟨.inr rfl, ?_⟩
    exact ⟨_, _, _, _, rfl, (by (repeat' apply And.intro) <;> first | trivial | exact Nat.le_of_ble_eq_true rfl | rfl), rfl, (by (repeat' apply And.intro) <;> first | trivial | exact Nat.le_of_ble_eq_true rfl | rfl), ⟨CoC.one (nilS (keysL_f h0)), CoC.refl _, trivial⟩⟩
  · skip
    have h0 := r0
    have h0 := of_decide_eq_true (not_f h0)
    try simp only [Int.toNat_natCast] at h0
    refine hw_skip ?_; show HW _ _ _ _ _; refine hw_seq ?_
    have hv := vErr_ok h0
    refine hw_region (E := TrydE) Trydok ?_; (iterate 3 refine rq rfl rfl rfl rfl rfl ?_); refine rc rfl rfl rfl rfl rfl rfl good88 (cSupers n l hv.1 hv.2.1) (CoL.refl _) rfl rfl ?_
    refine rc rfl rfl rfl rfl rfl rfl good87 (cExtreme n l h0) (CoL.refl _) rfl rfl ?_; (iterate 2 refine rq rfl rfl rfl rfl rfl ?_); refine rg_nil ?_; show HW _ _ _ _ _; refine hw_ret ?_; refine ⟨.inr rfl, ?_⟩
    exact ⟨_, _, _, _, rfl, (by (repeat' apply And.intro) <;> first | trivial | exact Nat.le_of_ble_eq_true rfl | rfl), rfl, (by (repeat' apply And.intro) <;> first | trivial | exact Nat.le_of_ble_eq_true rfl | rfl), ⟨CoC.one (CoP.of_eq (by rw [keysL_t h0])), cci h0.symm, trivial⟩⟩
theorem good50 : goodFn Tryd.prog 50 := ⟨Tryd.f50, Tryd.func50, by kernel_rfl, by kernel_rfl⟩
theorem cKPrime (n : Int) (l : List Fd) : HPure Tryd.prog 50 [pI n, pP (fdl l)] (prOf [pA (orL (keysL n l)), pI (vErr n l)]) := by
  refine hpure_of (nt := 29) Trydok Tryd.func50 rfl rfl (Nat.le_of_ble_eq_true rfl) ?_; refine hw_seq ?_; refine hw_region (E := TrydE) Trydok ?_; (iterate 2 refine rq rfl rfl rfl rfl rfl ?_); refine rg_nil ?_; show HW _ _ _ _ _
  refine hw_seq ?_; refine hw_region (E := TrydE) Trydok ?_; (iterate 2 refine rq rfl rfl rfl rfl rfl ?_); refine rc rfl rfl rfl rfl rfl rfl good45 (cKAll n l) (CoL.refl _) rfl rfl ?_; (iterate 5 refine rq rfl rfl rfl rfl rfl ?_)
  refine rg_nil ?_; show HW _ _ _ _ _; refine hw_seq ?_
  have hkl := keysL_len n l
  refine hw_region (E := TrydE) Trydok ?_; refine rq rfl rfl rfl rfl rfl ?_; refine rg_nil ?_; show HW _ _ _ _ _; (iterate 2 refine hw_seq ?_); refine hw_region (E := TrydE) Trydok ?_; (iterate 3 refine rq rfl rfl rfl rfl rfl ?_)
  refine rg_nil ?_; show HW _ _ _ _ _; refine hw_block ?_
  refine hw_loopK (ι := Nat) ⟨[(7, some _), (17, some _), (18, some _)], []⟩ ⟨⟨⟨_, rfl, CoR.refl _⟩, ⟨_, rfl, CoR.refl _⟩, ⟨_, rfl, CoR.refl _⟩, trivial⟩, trivial⟩ (fun i => ⟨[(8, some (vA (orL ((keysL n l).take i)))), (19, some (vI i))], []⟩) (fun i => i ≤ (keysL n l).length) (fun i => (keysL n l).length - i) (0) (Nat.zero_le _) ⟨⟨⟨_, rfl, (by first | exact CoR.refl _ | exact coi (by omega) | exact cob (by simp_all))⟩, ⟨_, rfl, (by first | exact CoR.refl _ | exact coi (by omega) | exact cob (by simp_all))⟩, trivial⟩, trivial⟩ ?_
  rintro i hi
  refine hw_seq ?_; refine hw_region (E := TrydE) Trydok ?_; refine rq rfl rfl rfl rfl rfl ?_; refine rg_nil ?_; show HW _ _ _ _ _; refine hw_seq ?_; refine hw_cond _ rfl (fun r0 => ?_) (fun r0 => ?_)
  · skip
    have h0 := r0
    have h0 := of_decide_eq_true h0
    try simp only [Int.toNat_natCast] at h0
    refine hw_skip ?_; show HW _ _ _ _ _; refine hw_seq ?_; refine hw_block ?_; refine hw_seq ?_; refine hw_region (E := TrydE) Trydok ?_; (iterate 3 refine rq rfl rfl rfl rfl rfl ?_); refine rg_nil ?_; show HW _ _ _ _ _
    refine hw_region (E := TrydE) Trydok ?_; (iterate 4 refine rq rfl rfl rfl rfl rfl ?_); refine rg_nil ?_; show HW _ _ _ _ _; refine hw_region (E := TrydE) Trydok ?_; (iterate 2 refine rq rfl rfl rfl rfl rfl ?_); refine rg_nil ?_
    refine ⟨i + 1, ?_, ?_, ?_⟩
    · show i + 1 ≤ _; omega
    · first | omega | (dsimp only; omega)
    · exact ⟨⟨⟨_, rfl, (cor_i (by rw [bOr, orL_take (by omega)]; rfl))⟩, ⟨_, rfl, (by first | exact CoR.refl _ | exact coi (by omega) | exact cob (by simp_all))⟩, ⟨_, rfl, CoR.refl _⟩, ⟨_, rfl, CoR.refl _⟩, ⟨_, rfl, CoR.refl _⟩, trivial⟩, trivial⟩
  · skip
    have h0 := r0
    have h0 := of_decide_eq_false h0
    try simp only [Int.toNat_natCast] at h0
    obtain rfl : i = (keysL n l).length := by omega
    refine hw_exit ?_; show HW _ _ _ _ _; refine hw_seq ?_; refine hw_region (E := TrydE) Trydok ?_; (iterate 4 refine rq rfl rfl rfl rfl rfl ?_); refine rg_nil ?_; show HW _ _ _ _ _; refine hw_ret ?_; refine ⟨.inr rfl, ?_⟩
    exact ⟨_, _, _, _, rfl, (by (repeat' apply And.intro) <;> first | trivial | exact Nat.le_of_ble_eq_true rfl | rfl), rfl, (by (repeat' apply And.intro) <;> first | trivial | exact Nat.le_of_ble_eq_true rfl | rfl), ⟨cci (by rw [List.take_length]), CoC.refl _, trivial⟩⟩
theorem good89 : goodFn Tryd.prog 89 := ⟨Tryd.f89, Tryd.func89, by kernel_rfl, by kernel_rfl⟩
theorem cRIsKey (n : Int) (l : List Fd) (s : AS) (hv : vErr n l = 0) : HPure Tryd.prog 89 [pI n, pP (fdl l), pA s] (prOf [pB (isKey n l s)]) := by
  refine hpure_of (nt := 30) Trydok Tryd.func89 rfl rfl (Nat.le_of_ble_eq_true rfl) ?_; refine hw_seq ?_; refine hw_region (E := TrydE) Trydok ?_; refine rq rfl rfl rfl rfl rfl ?_; refine rg_nil ?_; show HW _ _ _ _ _
  (iterate 2 refine hw_seq ?_)
  have hv0 := vErr_ok hv
  refine hw_region (E := TrydE) Trydok ?_; (iterate 3 refine rq rfl rfl rfl rfl rfl ?_); refine rc rfl rfl rfl rfl rfl rfl good27 (cRSkey n l s) (CoL.refl _) rfl rfl ?_; refine rq rfl rfl rfl rfl rfl ?_; refine rg_nil ?_
  show HW _ _ _ _ _; refine hw_cond _ rfl (fun r0 => ?_) (fun r0 => ?_)
  · skip
    have h0 := r0
    have h0 := not_t h0
    refine hw_seq ?_; refine hw_region (E := TrydE) Trydok ?_; refine rq rfl rfl rfl rfl rfl ?_; refine rg_nil ?_; show HW _ _ _ _ _; refine hw_ret ?_; refine ⟨.inr rfl, ?_⟩
    exact ⟨_, _, _, _, rfl, (by (repeat' apply And.intro) <;> first | trivial | exact Nat.le_of_ble_eq_true rfl | rfl), rfl, (by (repeat' apply And.intro) <;> first | trivial | exact Nat.le_of_ble_eq_true rfl | rfl), ⟨ccb (isKey_f1 (by assumption)).symm, trivial⟩⟩
  · skip
    have h0 := r0
    have h0 := not_f h0
    refine hw_skip ?_; show HW _ _ _ _ _; (iterate 2 refine hw_seq ?_); refine hw_region (E := TrydE) Trydok ?_; refine rq rfl rfl rfl rfl rfl ?_; refine rg_nil ?_; show HW _ _ _ _ _; refine hw_block ?_
    refine hw_loopK (ι := Nat) ⟨[(0, some _), (1, some _), (2, some _)], []⟩ ⟨⟨⟨_, rfl, CoR.refl _⟩, ⟨_, rfl, CoR.refl _⟩, ⟨_, rfl, CoR.refl _⟩, trivial⟩, trivial⟩ (fun i => ⟨[(7, some (vI i))], []⟩) (fun i => i ≤ n.toNat ∧ ∀ j, j < i → (s.getLsbD j && skey n l (noA s j)) = false) (fun i => n.toNat - i) (0) (⟨Nat.zero_le _, all_zero⟩) ⟨⟨⟨_, rfl, (by first | exact CoR.refl _ | exact coi (by omega) | exact cob (by simp_all))⟩, trivial⟩, trivial⟩ ?_
    rintro i ⟨hi, hI⟩
    (iterate 2 refine hw_seq ?_); refine hw_region (E := TrydE) Trydok ?_; (iterate 3 refine rq rfl rfl rfl rfl rfl ?_); refine rg_nil ?_; show HW _ _ _ _ _; refine hw_cond _ rfl (fun r1 => ?_) (fun r1 => ?_)
    · skip
      have h1 := r1
      have h1 := of_decide_eq_true h1
      try simp only [Int.toNat_natCast] at h1
      refine hw_skip ?_; show HW _ _ _ _ _; refine hw_seq ?_; refine hw_block ?_; refine hw_seq ?_; refine hw_region (E := TrydE) Trydok ?_; (iterate 2 refine rq rfl rfl rfl rfl rfl ?_)
      refine rc rfl rfl rfl rfl rfl rfl good96 (cHas s i) (CoL.refl _) rfl rfl ?_; refine rq rfl rfl rfl rfl rfl ?_; refine rsplit rfl rfl (fun r2 => ?_) (fun r2 => ?_)
      · skip
        have h2 := r2
        (iterate 6 refine rq rfl rfl rfl rfl (gtt r2) ?_); refine rc rfl rfl rfl rfl rfl rfl good27 (cRSkey n l (noA s i)) (⟨CoC.refl _, CoC.refl _, cci (noA_v _ _ (by omega)), trivial⟩) rfl (gtt r2) ?_
        refine rq rfl rfl rfl rfl rfl ?_; refine rg_nil ?_; show HW _ _ _ _ _; refine hw_cond _ rfl (fun r3 => ?_) (fun r3 => ?_)
        · skip
          have h3 := r3
          have h3 := bif_t r2 h3
          refine hw_seq ?_; refine hw_region (E := TrydE) Trydok ?_; refine rq rfl rfl rfl rfl rfl ?_; refine rg_nil ?_; show HW _ _ _ _ _; refine hw_ret ?_; refine ⟨.inr rfl, ?_⟩
          exact ⟨_, _, _, _, rfl, (by (repeat' apply And.intro) <;> first | trivial | exact Nat.le_of_ble_eq_true rfl | rfl), rfl, (by (repeat' apply And.intro) <;> first | trivial | exact Nat.le_of_ble_eq_true rfl | rfl), ⟨ccb (isKey_f2 (a := i) (by omega) (has_yes (by omega) (by assumption)) (by assumption)).symm, trivial⟩⟩
        · skip
          have h3 := r3
          have h3 := bif_t r2 h3
          refine hw_skip ?_; show HW _ _ _ _ _; refine hw_region (E := TrydE) Trydok ?_; (iterate 3 refine rq rfl rfl rfl rfl rfl ?_); refine rg_nil ?_; refine ⟨i + 1, ?_, ?_, ?_⟩
          · exact ⟨by show i + 1 ≤ _; omega, all_succ hI (by first | exact has_no1 (by omega) (by assumption) | exact has_no2 (by assumption))⟩
          · first | omega | (dsimp only; omega)
          · exact ⟨⟨⟨_, rfl, (by first | exact CoR.refl _ | exact coi (by omega) | exact cob (by simp_all))⟩, ⟨_, rfl, CoR.refl _⟩, ⟨_, rfl, CoR.refl _⟩, ⟨_, rfl, CoR.refl _⟩, trivial⟩, trivial⟩
      · skip
        have h2 := r2
        (iterate 7 refine rk rfl rfl rfl (gft r2) ?_); refine rq rfl rfl rfl rfl rfl ?_ (hp := r2); refine rg_nil ?_; show HW _ _ _ _ _; refine hw_cond _ rfl (fun e => by cases e) (fun _ => ?_); refine hw_skip ?_; show HW _ _ _ _ _
        refine hw_region (E := TrydE) Trydok ?_; (iterate 3 refine rq rfl rfl rfl rfl rfl ?_); refine rg_nil ?_; refine ⟨i + 1, ?_, ?_, ?_⟩
        · exact ⟨by show i + 1 ≤ _; omega, all_succ hI (by first | exact has_no1 (by omega) (by assumption) | exact has_no2 (by assumption))⟩
        · first | omega | (dsimp only; omega)
        · exact ⟨⟨⟨_, rfl, (by first | exact CoR.refl _ | exact coi (by omega) | exact cob (by simp_all))⟩, ⟨_, rfl, CoR.refl _⟩, ⟨_, rfl, CoR.refl _⟩, ⟨_, rfl, CoR.refl _⟩, trivial⟩, trivial⟩
    · skip
      have h1 := r1
      have h1 := of_decide_eq_false h1
      try simp only [Int.toNat_natCast] at h1
      refine hw_exit ?_; show HW _ _ _ _ _; refine hw_seq ?_; refine hw_region (E := TrydE) Trydok ?_; refine rq rfl rfl rfl rfl rfl ?_; refine rg_nil ?_; show HW _ _ _ _ _; refine hw_ret ?_; refine ⟨.inr rfl, ?_⟩
      exact ⟨_, _, _, _, rfl, (by (repeat' apply And.intro) <;> first | trivial | exact Nat.le_of_ble_eq_true rfl | rfl), rfl, (by (repeat' apply And.intro) <;> first | trivial | exact Nat.le_of_ble_eq_true rfl | rfl), ⟨ccb (isKey_t (by assumption) (fun a ha => hI a (by omega))).symm, trivial⟩⟩
theorem good47 : goodFn Tryd.prog 47 := ⟨Tryd.f47, Tryd.func47, by kernel_rfl, by kernel_rfl⟩
theorem cRAll (n : Int) (l : List Fd) : HPure Tryd.prog 47 [pI n, pP (fdl l)] (prOf [pP (asl (keysL n l)), pI (vErr n l)]) := by
  refine hpure_of (nt := 31) Trydok Tryd.func47 rfl rfl (Nat.le_of_ble_eq_true rfl) ?_; refine hw_seq ?_; refine hw_region (E := TrydE) Trydok ?_; (iterate 2 refine rq rfl rfl rfl rfl rfl ?_); refine rg_nil ?_; show HW _ _ _ _ _
  (iterate 2 refine hw_seq ?_); refine hw_region (E := TrydE) Trydok ?_; (iterate 2 refine rq rfl rfl rfl rfl rfl ?_); refine rc rfl rfl rfl rfl rfl rfl good19 (cRValid n l) (CoL.refl _) rfl rfl ?_; refine rq rfl rfl rfl rfl rfl ?_
  refine rg_nil ?_; show HW _ _ _ _ _; refine hw_seq ?_; refine hw_region (E := TrydE) Trydok ?_; (iterate 2 refine rq rfl rfl rfl rfl rfl ?_); refine rg_nil ?_; show HW _ _ _ _ _; refine hw_cond _ rfl (fun r0 => ?_) (fun r0 => ?_)
  · skip
    have h0 := r0
    have h0 := of_decide_eq_false (not_t h0)
    try simp only [Int.toNat_natCast] at h0
    refine hw_seq ?_; refine hw_region (E := TrydE) Trydok ?_; (iterate 3 refine rq rfl rfl rfl rfl rfl ?_); refine rg_nil ?_; show HW _ _ _ _ _; refine hw_ret ?_; refine ⟨.inr rfl, ?_⟩
    exact ⟨_, _, _, _, rfl, (by (repeat' apply And.intro) <;> first | trivial | exact Nat.le_of_ble_eq_true rfl | rfl), rfl, (by (repeat' apply And.intro) <;> first | trivial | exact Nat.le_of_ble_eq_true rfl | rfl), ⟨CoC.one (nilS (keysL_f h0)), CoC.refl _, trivial⟩⟩
  · skip
    have h0 := r0
    have h0 := of_decide_eq_true (not_f h0)
    try simp only [Int.toNat_natCast] at h0
    refine hw_skip ?_; show HW _ _ _ _ _; refine hw_seq ?_
    have hv0 := vErr_ok h0
    have hfn := full_n hv0.1 hv0.2.1
    refine hw_region (E := TrydE) Trydok ?_; refine rq rfl rfl rfl rfl rfl ?_; refine rg_nil ?_; show HW _ _ _ _ _; (iterate 2 refine hw_seq ?_); refine hw_region (E := TrydE) Trydok ?_; refine rq rfl rfl rfl rfl rfl ?_
    refine rg_nil ?_; show HW _ _ _ _ _; refine hw_block ?_; refine hw_adopt 7 900 true 1 30 (lf sC []) (by decide) rfl (CoP.sl rfl (.inr rfl) (fun h => h) (fun i j hi _ => absurd hi (Nat.not_lt_zero i))) (.inr rfl) rfl ?_
    refine hw_loopK (ι := Nat) ⟨[(0, some _), (1, some _)], []⟩ ⟨⟨⟨_, rfl, CoR.refl _⟩, ⟨_, rfl, CoR.refl _⟩, trivial⟩, trivial⟩ (fun i => ⟨[(7, some (.v (.one (.ref 900 (keysT n l i).length)))), (8, some (.v (.one (.p (.raw (.int .u32 (i : Int)))))))], [(900, some (.arr true 1 30 (keysT n l i).length (lf sC (keysT n l i))))]⟩) (fun i => i ≤ 2 ^ n.toNat) (fun i => 2 ^ n.toNat - i) (0) (Nat.zero_le _) ⟨⟨⟨_, rfl, (by first | exact CoR.refl _ | exact coi (by omega) | exact cob (by simp_all))⟩, ⟨_, rfl, (by first | exact CoR.refl _ | exact coi (by omega) | exact cob (by simp_all))⟩, trivial⟩, ⟨⟨_, rfl, CoO.refl _⟩, trivial⟩⟩ ?_
    rintro i hi
    have hlen := keysT_len n l i
    (iterate 2 refine hw_seq ?_); refine hw_region (E := TrydE) Trydok ?_; (iterate 2 refine rq rfl rfl rfl rfl rfl ?_); refine rc rfl rfl rfl rfl rfl rfl good28 (cRFull n) (CoL.refl _) rfl rfl ?_; refine rq rfl rfl rfl rfl rfl ?_
    refine rg_nil ?_; show HW _ _ _ _ _; refine hw_cond _ rfl (fun r1 => ?_) (fun r1 => ?_)
    · skip
      have h1 := r1
      have h1 := of_decide_eq_true h1
      try simp only [Int.toNat_natCast] at h1
      refine hw_skip ?_; show HW _ _ _ _ _; refine hw_seq ?_; refine hw_block ?_; refine hw_seq ?_; refine hw_region (E := TrydE) Trydok ?_; (iterate 3 refine rq rfl rfl rfl rfl rfl ?_)
      refine rc rfl rfl rfl rfl rfl rfl good89 (cRIsKey n l (BitVec.ofNat 32 i) h0) (⟨CoC.refl _, CoC.refl _, cci (set_u64 (by omega)), trivial⟩) rfl rfl ?_; refine rg_nil ?_; show HW _ _ _ _ _
      refine hw_cond _ rfl (fun r2 => ?_) (fun r2 => ?_)
      · skip
        have h2 := r2
        refine hw_region (E := TrydE) Trydok ?_; (iterate 2 refine rq rfl rfl rfl rfl rfl ?_); refine rm 0 rfl rfl rfl rfl rfl rfl ?_; refine ra 1 true rfl rfl rfl rfl rfl rfl ?_; refine rq rfl rfl rfl rfl rfl ?_; refine rg_nil ?_
        show HW _ _ _ _ _; refine hw_region (E := TrydE) Trydok ?_; (iterate 3 refine rq rfl rfl rfl rfl rfl ?_); refine rg_nil ?_
        first | (refine ⟨i + 1, ?_, ?_, ?_⟩
                 · show i + 1 ≤ _; omega
                 · first | omega | (dsimp only; omega)
                 · exact ⟨⟨⟨_, rfl, (ref_app (keysT_t (by assumption)))⟩, ⟨_, rfl, (by first | exact CoR.refl _ | exact coi (by omega) | exact cob (by simp_all))⟩, ⟨_, rfl, CoR.refl _⟩, ⟨_, rfl, CoR.refl _⟩, trivial⟩, ⟨⟨_, rfl, (arr_app1 (keysT_t (by assumption)) (CoP.of_eq (congrArg (fun z => PV.raw (.int .u32 z)) (set_u64 (by omega)))))⟩, trivial⟩⟩)
              | (refine ⟨i + 1, ?_, ?_, ?_⟩
                 · show i + 1 ≤ _; omega
                 · first | omega | (dsimp only; omega)
                 · exact ⟨⟨⟨_, rfl, (ref_same (keysT_f (by assumption)))⟩, ⟨_, rfl, (by first | exact CoR.refl _ | exact coi (by omega) | exact cob (by simp_all))⟩, ⟨_, rfl, CoR.refl _⟩, ⟨_, rfl, CoR.refl _⟩, trivial⟩, ⟨⟨_, rfl, (arr_same (keysT_f (by assumption)))⟩, trivial⟩⟩)
      · skip
        have h2 := r2
        refine hw_skip ?_; show HW _ _ _ _ _; refine hw_region (E := TrydE) Trydok ?_; (iterate 3 refine rq rfl rfl rfl rfl rfl ?_); refine rg_nil ?_
        first | (refine ⟨i + 1, ?_, ?_, ?_⟩
                 · show i + 1 ≤ _; omega
                 · first | omega | (dsimp only; omega)
                 · exact ⟨⟨⟨_, rfl, (ref_app (keysT_t (by assumption)))⟩, ⟨_, rfl, (by first | exact CoR.refl _ | exact coi (by omega) | exact cob (by simp_all))⟩, ⟨_, rfl, CoR.refl _⟩, ⟨_, rfl, CoR.refl _⟩, trivial⟩, ⟨⟨_, rfl, (arr_app1 (keysT_t (by assumption)) (CoP.of_eq (congrArg (fun z => PV.raw (.int .u32 z)) (set_u64 (by omega)))))⟩, trivial⟩⟩)
              | (refine ⟨i + 1, ?_, ?_, ?_⟩
                 · show i + 1 ≤ _; omega
                 · first | omega | (dsimp only; omega)
                 · exact ⟨⟨⟨_, rfl, (ref_same (keysT_f (by assumption)))⟩, ⟨_, rfl, (by first | exact CoR.refl _ | exact coi (by omega) | exact cob (by simp_all))⟩, ⟨_, rfl, CoR.refl _⟩, ⟨_, rfl, CoR.refl _⟩, trivial⟩, ⟨⟨_, rfl, (arr_same (keysT_f (by assumption)))⟩, trivial⟩⟩)
    · skip
      have h1 := r1
      have h1 := of_decide_eq_false h1
      try simp only [Int.toNat_natCast] at h1
      obtain rfl : i = 2 ^ n.toNat := by omega
      refine hw_exit ?_; show HW _ _ _ _ _; refine hw_seq ?_; refine hw_freeze 7 rfl rfl rfl ?_; refine hw_region (E := TrydE) Trydok ?_; refine rq rfl rfl rfl rfl rfl ?_
      refine rc rfl rfl rfl rfl rfl rfl good63 (cROrder (keysT n l (2 ^ n.toNat)) (by omega)) (CoL.refl _) rfl rfl ?_; (iterate 2 refine rq rfl rfl rfl rfl rfl ?_); refine rg_nil ?_; show HW _ _ _ _ _; refine hw_ret ?_
      refine ⟨.inr rfl, ?_⟩
      exact ⟨_, _, _, _, rfl, (by (repeat' apply And.intro) <;> first | trivial | exact Nat.le_of_ble_eq_true rfl | rfl), rfl, (by (repeat' apply And.intro) <;> first | trivial | exact Nat.le_of_ble_eq_true rfl | rfl), ⟨CoC.one (CoP.of_eq (by rw [keysL_t h0])), cci h0.symm, trivial⟩⟩
theorem good48 : goodFn Tryd.prog 48 := ⟨Tryd.f48, Tryd.func48, by kernel_rfl, by kernel_rfl⟩
theorem cRPrime (n : Int) (l : List Fd) : HPure Tryd.prog 48 [pI n, pP (fdl l)] (prOf [pA (orL (keysL n l)), pI (vErr n l)]) := by
  refine hpure_of (nt := 30) Trydok Tryd.func48 rfl rfl (Nat.le_of_ble_eq_true rfl) ?_; refine hw_seq ?_; refine hw_region (E := TrydE) Trydok ?_; (iterate 2 refine rq rfl rfl rfl rfl rfl ?_); refine rg_nil ?_; show HW _ _ _ _ _
  refine hw_seq ?_; refine hw_region (E := TrydE) Trydok ?_; (iterate 2 refine rq rfl rfl rfl rfl rfl ?_); refine rc rfl rfl rfl rfl rfl rfl good47 (cRAll n l) (CoL.refl _) rfl rfl ?_; (iterate 5 refine rq rfl rfl rfl rfl rfl ?_)
  refine rg_nil ?_; show HW _ _ _ _ _; refine hw_seq ?_
  have hkl := keysL_len n l
  refine hw_region (E := TrydE) Trydok ?_; refine rq rfl rfl rfl rfl rfl ?_; refine rg_nil ?_; show HW _ _ _ _ _; (iterate 2 refine hw_seq ?_); refine hw_region (E := TrydE) Trydok ?_; refine rq rfl rfl rfl rfl rfl ?_
  refine rg_nil ?_; show HW _ _ _ _ _; refine hw_block ?_
  refine hw_loopK (ι := Nat) ⟨[(6, some _), (7, some _)], []⟩ ⟨⟨⟨_, rfl, CoR.refl _⟩, ⟨_, rfl, CoR.refl _⟩, trivial⟩, trivial⟩ (fun i => ⟨[(8, some (vA (orL ((keysL n l).take i)))), (9, some (vI i))], []⟩) (fun i => i ≤ (keysL n l).length) (fun i => (keysL n l).length - i) (0) (Nat.zero_le _) ⟨⟨⟨_, rfl, (by first | exact CoR.refl _ | exact coi (by omega) | exact cob (by simp_all))⟩, ⟨_, rfl, (by first | exact CoR.refl _ | exact coi (by omega) | exact cob (by simp_all))⟩, trivial⟩, trivial⟩ ?_
  rintro i hi
  (iterate 2 refine hw_seq ?_); refine hw_region (E := TrydE) Trydok ?_; (iterate 4 refine rq rfl rfl rfl rfl rfl ?_); refine rg_nil ?_; show HW _ _ _ _ _; refine hw_cond _ rfl (fun r0 => ?_) (fun r0 => ?_)
  · skip
    have h0 := r0
    have h0 := of_decide_eq_true h0
    try simp only [Int.toNat_natCast] at h0
    refine hw_skip ?_; show HW _ _ _ _ _; refine hw_seq ?_; refine hw_block ?_; refine hw_region (E := TrydE) Trydok ?_; (iterate 7 refine rq rfl rfl rfl rfl rfl ?_); refine rg_nil ?_; show HW _ _ _ _ _
    refine hw_region (E := TrydE) Trydok ?_; (iterate 3 refine rq rfl rfl rfl rfl rfl ?_); refine rg_nil ?_; refine ⟨i + 1, ?_, ?_, ?_⟩
    · show i + 1 ≤ _; omega
    · first | omega | (dsimp only; omega)
    · exact ⟨⟨⟨_, rfl, (cor_i (by rw [bOr, orL_take (by omega)]; rfl))⟩, ⟨_, rfl, (by first | exact CoR.refl _ | exact coi (by omega) | exact cob (by simp_all))⟩, ⟨_, rfl, CoR.refl _⟩, ⟨_, rfl, CoR.refl _⟩, trivial⟩, trivial⟩
  · skip
    have h0 := r0
    have h0 := of_decide_eq_false h0
    try simp only [Int.toNat_natCast] at h0
    obtain rfl : i = (keysL n l).length := by omega
    refine hw_exit ?_; show HW _ _ _ _ _; refine hw_seq ?_; refine hw_region (E := TrydE) Trydok ?_; (iterate 4 refine rq rfl rfl rfl rfl rfl ?_); refine rg_nil ?_; show HW _ _ _ _ _; refine hw_ret ?_; refine ⟨.inr rfl, ?_⟩
    exact ⟨_, _, _, _, rfl, (by (repeat' apply And.intro) <;> first | trivial | exact Nat.le_of_ble_eq_true rfl | rfl), rfl, (by (repeat' apply And.intro) <;> first | trivial | exact Nat.le_of_ble_eq_true rfl | rfl), ⟨cci (by rw [List.take_length]), CoC.refl _, trivial⟩⟩
end Go.Hx
end
section
namespace Go.Hx
def downP (s : AS) : Nat → AS → List AS
  | 0, _ => []
  | n + 1, x => if x = 0 then [] else x :: downP s n ((x - 1) &&& s)
def tsubs (s : AS) : List AS := 0 :: downP s (s.toNat + 1) s
theorem sub_zero (s : AS) : sub 0 s := sub_bit.2 fun i hi h => by simp at h
theorem mem_downP {s : AS} : ∀ (n : Nat) (x : AS), sub x s → x.toNat < n → ∀ z, z ∈ downP s n x ↔ sub z s ∧ z ≠ 0 ∧ z.toNat ≤ x.toNat
  | 0, x, _, h, z => absurd h (Nat.not_lt_zero _)
  | n + 1, x, hx, h, z => by
    unfold downP
    by_cases h0 : x = 0
    · rw [if_pos h0]
      subst h0
      constructor
      · intro h; cases h
      · rintro ⟨_, h1, h2⟩
        exact absurd (BitVec.eq_of_toNat_eq (Nat.le_antisymm h2 (Nat.zero_le _))) h1
    · rw [if_neg h0, List.mem_cons, mem_downP n _ pred_sub (by have := pred_lt (s := s) h0; omega)]
      constructor
      · rintro (rfl | ⟨h1, h2, h3⟩)
        · exact ⟨hx, h0, Nat.le_refl _⟩
        · have := pred_lt (s := s) h0
          exact ⟨h1, h2, by omega⟩
      · rintro ⟨h1, h2, h3⟩
        by_cases he : z = x
        · exact .inl he
        · have hne : z.toNat ≠ x.toNat := fun e => he (BitVec.eq_of_toNat_eq e)
          exact .inr ⟨h1, h2, pred_max hx h1 (by omega)⟩
theorem mem_tsubs {s z : AS} : z ∈ tsubs s ↔ sub z s := by
  unfold tsubs
  rw [List.mem_cons, mem_downP _ _ (sub_self s) (Nat.lt_succ_self _)]
  constructor
  · rintro (rfl | h)
    · exact sub_zero s
    · exact h.1
  · intro h
    by_cases h0 : z = 0
    · exact .inl h0
    · exact .inr ⟨h, h0, subLe h⟩
def TsI (s : AS) (x : Nat × List AS × AS) : Prop := x.2.1 ++ downP s x.1 x.2.2 = tsubs s ∧ x.2.2.toNat < x.1 ∧ x.2.1.length + x.1 = s.toNat + 2
theorem ts_zero (s : AS) : TsI s (s.toNat + 1, [0], s) := ⟨rfl, Nat.lt_succ_self _, by dsimp only; rw [List.length_singleton]; omega⟩
theorem ts_next {s : AS} {x : Nat × List AS × AS} (h : TsI s x) (h0 : x.2.2 ≠ 0) : TsI s (x.1 - 1, x.2.1 ++ [x.2.2], (x.2.2 - 1) &&& s) := by
  obtain ⟨h1, h2, h3⟩ := h
  obtain ⟨n, hn⟩ : ∃ n, x.1 = n + 1 := ⟨x.1 - 1, by omega⟩
  have hl := pred_lt (s := s) h0
  refine ⟨?_, by dsimp only; omega, by dsimp only; rw [List.length_append, List.length_singleton]; omega⟩
  rw [← h1, hn]
  show (x.2.1 ++ [x.2.2]) ++ downP s n _ = _
  rw [List.append_assoc]
  conv => rhs; unfold downP
  rw [if_neg h0]
  rfl
theorem ts_end {s : AS} {x : Nat × List AS × AS} (h : TsI s x) (h0 : x.2.2 = 0) : x.2.1 = tsubs s := by
  obtain ⟨h1, h2, h3⟩ := h
  obtain ⟨n, hn⟩ : ∃ n, x.1 = n + 1 := ⟨x.1 - 1, by omega⟩
  rw [← h1, hn]
  unfold downP
  rw [if_pos h0, List.append_nil]
theorem tsubs_len (s : AS) : (tsubs s).length ≤ 4294967297 := by
  have : ∀ n x, (downP s n x).length ≤ n := by
    intro n
    induction n with
    | zero => intro x; exact Nat.le_refl _
    | succ n ih =>
      intro x
      unfold downP
      split
      · simp
      · rw [List.length_cons]; have := ih ((x - 1) &&& s); omega
  have h1 := this (s.toNat + 1) s
  have := s.isLt
  unfold tsubs
  rw [List.length_cons]
  omega
theorem lowNeg {r : AS} (h : r ≠ 0) : r &&& (-r) = (1 : AS) <<< lowB r := by
  obtain ⟨h1, h2, h3, h4⟩ := low_bit h
  have e : -r = ~~~(r - 1) := by
    apply BitVec.eq_of_toNat_eq
    have h0 : r.toNat ≠ 0 := fun e => h (BitVec.eq_of_toNat_eq e)
    have := r.isLt
    rw [BitVec.toNat_neg, BitVec.toNat_not, pred_nat h]
    omega
  rw [e]
  apply BitVec.eq_of_getLsbD_eq
  intro i hi
  have h5 := congrArg (fun z : AS => z.getLsbD i) h4
  simp only [BitVec.getLsbD_and, BitVec.getLsbD_not, decide_eq_true hi, Bool.true_and] at h5
  have h6 : ((1 : AS) <<< lowB r).getLsbD i = decide (i = lowB r) := bit_one _ i hi
  rw [BitVec.getLsbD_and, BitVec.getLsbD_not, decide_eq_true hi, Bool.true_and, h6]
  rw [h6] at h5
  by_cases hl : i = lowB r
  · subst hl
    rw [h2] at h5 ⊢
    simpa using h5
  · rw [decide_eq_false hl] at h5 ⊢
    cases hr : r.getLsbD i <;> rw [hr] at h5 <;> simpa using h5
theorem neg_v (r : AS) (h : r ≠ 0) {a : Int} (ha : a = IntKind.wrap .u32 (0 - asI r)) : bitV .and .u32 (asI r) a = asI ((1 : AS) <<< lowB r) := by
  have e : a = asI (-r) := by
    rw [ha]
    have h0 : r.toNat ≠ 0 := fun e => h (BitVec.eq_of_toNat_eq e)
    have := r.isLt
    unfold asI
    rw [BitVec.toNat_neg]
    simp only [IntKind.wrap, IntKind.signed, IntKind.bits]
    simp
    omega
  rw [e, bAnd, lowNeg h]
def supP (l : List Fd) (p s : AS) : Bool := decide (sub p (clo l s))
theorem supP_v {l : List Fd} {p s : AS} : decide (bitV .and .u32 (asI (clo l s)) (asI p) = asI p) = supP l p s := by
  rw [bAnd, asI_eq]
  unfold supP
  refine decide_eq_decide.2 ⟨fun e => ?_, fun e => ?_⟩
  · rw [← e]; exact sub_and_r
  · refine sub_antisymm sub_and_l (sub_and_both e (sub_refl p))
def minL (l : List Fd) (p x : AS) : Bool := (List.range 32).all fun a => !(x.getLsbD a && supP l p (noA x a))
theorem minL_f {l : List Fd} {p x : AS} {a : Nat} (ha : a < 32) (h : x.getLsbD a = true) (h2 : supP l p (noA x a) = true) : minL l p x = false := by
  unfold minL
  rw [List.all_eq_false]
  exact ⟨a, List.mem_range.2 ha, by rw [h, h2]; decide⟩
theorem minL_t {l : List Fd} {p x : AS} (h2 : ∀ a, a < 32 → x.getLsbD a = true → supP l p (noA x a) = false) : minL l p x = true := by
  unfold minL
  rw [List.all_eq_true]
  intro a ha
  cases hx : x.getLsbD a with
  | false => rfl
  | true => rw [h2 a (List.mem_range.1 ha) hx]; rfl
def MinI (l : List Fd) (p x r : AS) : Prop := sub r x ∧ ∀ a, a < 32 → x.getLsbD a = true → r.getLsbD a = true ∨ supP l p (noA x a) = false
theorem min_zero (l : List Fd) (p x : AS) : MinI l p x x := ⟨sub_refl x, fun a _ h => .inl h⟩
theorem min_low {l : List Fd} {p x r : AS} (h : MinI l p x r) (h0 : r ≠ 0) : lowB r < 32 ∧ x.getLsbD (lowB r) = true := by
  obtain ⟨h1, h2, _, _⟩ := low_bit h0
  exact ⟨h1, sub_bit.1 h.1 _ h1 h2⟩
theorem min_next {l : List Fd} {p x r : AS} (h : MinI l p x r) (h0 : r ≠ 0) (hf : supP l p (noA x (lowB r)) = false) : MinI l p x (r &&& (r - 1)) := by
  obtain ⟨h1, h2, h3, h4⟩ := low_bit h0
  rw [h4]
  refine ⟨sub_trans sub_and_r h.1, fun a ha hx => ?_⟩
  rcases h.2 a ha hx with h5 | h5
  · by_cases hl : a = lowB r
    · subst hl; exact .inr hf
    · refine .inl ?_
      have h6 : ((1 : AS) <<< lowB r).getLsbD a = decide (a = lowB r) := bit_one _ a ha
      rw [BitVec.getLsbD_and, BitVec.getLsbD_not, decide_eq_true ha, Bool.true_and, h5, h6, decide_eq_false hl]
      rfl
  · exact .inr h5
theorem min_end {l : List Fd} {p x r : AS} (h : MinI l p x r) (h0 : r = 0) : minL l p x = true := minL_t fun a ha hx => by
  rcases h.2 a ha hx with h5 | h5
  · subst h0; simp at h5
  · exact h5
theorem min_lt {r : AS} (h : r ≠ 0) : (r &&& (r - 1)).toNat < r.toNat := by
  have h1 := pred_nat h
  have h0 : r.toNat ≠ 0 := fun e => h (BitVec.eq_of_toNat_eq e)
  rw [BitVec.toNat_and, h1]
  have : (r.toNat &&& (r.toNat - 1)) ≤ r.toNat - 1 := Nat.and_le_right
  omega
def pkey (l : List Fd) (p x : AS) : Bool := supP l p x && minL l p x
def primeS (l : List Fd) (p : AS) : AS := orL ((tsubs p).filter (pkey l p))
theorem orL_bit {k : Nat} : ∀ {ps : List AS} {s : AS}, (ps.foldl (· ||| ·) s).getLsbD k = (s.getLsbD k || ps.any fun x => x.getLsbD k)
  | [], s => by simp
  | x :: ps, s => by
    rw [List.foldl_cons, orL_bit, BitVec.getLsbD_or, List.any_cons, Bool.or_assoc]
theorem orL_same {a b : List AS} (h : ∀ z, z ∈ a ↔ z ∈ b) : orL a = orL b := by
  apply BitVec.eq_of_getLsbD_eq
  intro i hi
  unfold orL
  rw [orL_bit, orL_bit]
  congr 1
  rw [Bool.eq_iff_iff, List.any_eq_true, List.any_eq_true]
  exact ⟨fun ⟨x, h1, h2⟩ => ⟨x, (h x).1 h1, h2⟩, fun ⟨x, h1, h2⟩ => ⟨x, (h x).2 h1, h2⟩⟩
def primeT (l : List Fd) (p : AS) (i : Nat) : AS := orL (((tsubs p).take i).filter (pkey l p))
theorem orL_app (a : List AS) (x : AS) : orL (a ++ [x]) = orL a ||| x := by unfold orL; rw [List.foldl_append]; rfl
theorem primeT_t {l : List Fd} {p : AS} {i : Nat} (hi : i < (tsubs p).length) (h : pkey l p ((tsubs p).getD i default) = true) : primeT l p (i + 1) = primeT l p i ||| (tsubs p).getD i default := by
  unfold primeT
  rw [take_snoc hi, List.filter_append]
  simp only [List.filter_cons, h, if_true, List.filter_nil]
  exact orL_app _ _
theorem primeT_f {l : List Fd} {p : AS} {i : Nat} (hi : i < (tsubs p).length) (h : pkey l p ((tsubs p).getD i default) = false) : primeT l p (i + 1) = primeT l p i := by
  unfold primeT
  rw [take_snoc hi, List.filter_append]
  simp only [List.filter_cons, h, Bool.false_eq_true, if_false, List.filter_nil, List.append_nil]
theorem primeT_end (l : List Fd) (p : AS) : primeT l p (tsubs p).length = primeS l p := by unfold primeT primeS; rw [List.take_length]
theorem pkey_t {l : List Fd} {p x : AS} (h : supP l p x = true) (h2 : minL l p x = true) : pkey l p x = true := by unfold pkey; rw [h, h2]; rfl
theorem pkey_f1 {l : List Fd} {p x : AS} (h : supP l p x = false) : pkey l p x = false := by unfold pkey; rw [h]; rfl
theorem pkey_f2 {l : List Fd} {p x : AS} (h : minL l p x = false) : pkey l p x = false := by unfold pkey; rw [h]; simp
end Go.Hx
end
