/- A part of the proof: lemmas for the theorem of this claim, merged by a program of ours out of W41. -/
import Derived.Test.YtdcdbghdgjlhhaaGreatM33
import Derived.Test.YtdcdbghdgjlhhaaGreatM34
set_option linter.all false
section
namespace Go.Hx
open Go.Proofs
set_option maxRecDepth 100000
theorem good6 : goodFn Tryz.prog 6 := ⟨Tryz.f6, Tryz.func6, by kernel_rfl, by kernel_rfl⟩
theorem c6 (l ch : List Opn) (cm : Bool) : HPure Tryz.prog 6 [pP (opns l), pP (opns ch), pB cm] (prOf [pB true]) := by
  refine hpure_of (nt := 105) Tryzok Tryz.func6 rfl rfl (Nat.le_of_ble_eq_true rfl) ?_; refine hw_seq ?_; refine hw_region (E := TryzE) Tryzok ?_; refine rq rfl rfl rfl rfl rfl ?_; refine rg_nil ?_; show HW _ _ _ _ _
  (iterate 2 refine hw_seq ?_); refine hw_region (E := TryzE) Tryzok ?_; refine rc rfl rfl rfl rfl rfl rfl good9 (c9) (CoL.refl _) rfl rfl ?_; (iterate 3 refine rq rfl rfl rfl rfl rfl ?_)
  refine rc rfl rfl rfl rfl rfl rfl good10 (c10 l 15) (CoL.refl _) rfl rfl ?_; (iterate 3 refine rq rfl rfl rfl rfl rfl ?_); refine rsplit rfl rfl (fun r0 => ?_) (fun r0 => ?_)
  · skip
    have h0 := r0
    have h0 := not_t h0
    (iterate 3 refine rk rfl rfl rfl (gtf r0) ?_); refine rq rfl rfl rfl rfl rfl ?_ (hp := r0); refine rg_nil ?_; show HW _ _ _ _ _; refine hw_cond _ rfl (fun _ => ?_) (fun e => by cases e); refine hw_seq ?_
    refine hw_region (E := TryzE) Tryzok ?_; refine rc rfl rfl rfl rfl rfl rfl good9 (c9) (CoL.refl _) rfl rfl ?_; refine rq rfl rfl rfl rfl rfl ?_; refine rg_nil ?_; show HW _ _ _ _ _; refine hw_ret ?_; refine ⟨.inr rfl, ?_⟩
    exact ⟨_, _, _, _, rfl, (by (repeat' apply And.intro) <;> first | trivial | exact Nat.le_of_ble_eq_true rfl | rfl), rfl, (by (repeat' apply And.intro) <;> first | trivial | exact Nat.le_of_ble_eq_true rfl | rfl), CoL.refl _⟩
  · skip
    have h0 := r0
    have h0 := not_f h0
    obtain ⟨ho, hlen⟩ := few_ops (l := l) (m := 15) (by simpa using h0)
    refine rq rfl rfl rfl rfl (gff r0) ?_; refine rc rfl rfl rfl rfl rfl rfl good10 (c10 ch 10) (CoL.refl _) rfl (gff r0) ?_; refine rq rfl rfl rfl rfl (gff r0) ?_; refine rq rfl rfl rfl rfl rfl ?_; refine rg_nil ?_
    show HW _ _ _ _ _; refine hw_cond _ rfl (fun r1 => ?_) (fun r1 => ?_)
    · skip
      have h1 := r1
      have h1 := bif_f r0 h1
      have h1 := not_t h1
      refine hw_seq ?_; refine hw_region (E := TryzE) Tryzok ?_; refine rc rfl rfl rfl rfl rfl rfl good9 (c9) (CoL.refl _) rfl rfl ?_; refine rq rfl rfl rfl rfl rfl ?_; refine rg_nil ?_; show HW _ _ _ _ _; refine hw_ret ?_
      refine ⟨.inr rfl, ?_⟩
      exact ⟨_, _, _, _, rfl, (by (repeat' apply And.intro) <;> first | trivial | exact Nat.le_of_ble_eq_true rfl | rfl), rfl, (by (repeat' apply And.intro) <;> first | trivial | exact Nat.le_of_ble_eq_true rfl | rfl), CoL.refl _⟩
    · skip
      have h1 := r1
      have h1 := bif_f r0 h1
      have h1 := not_f h1
      obtain ⟨hc, hclen⟩ := few_ops (l := ch) (m := 10) (by simpa using h1)
      have hlen2 : l.length ≤ 15 := by omega
      have hclen2 : ch.length ≤ 10 := by omega
      have h0s := plS_sim sim00 ho
      have h0s : Sim 15 (plS default l) := h0s.mono (by omega)
      obtain ⟨hcs, _, hnow, hopn⟩ := cl_sim h0s
      have hc21 := cl21 (by omega) h0s
      generalize hS : clR (plS default l) = S at hcs hnow hopn hc21
      obtain ⟨hb0, hbt⟩ := tx_begin hopn
      have hbs := (sim hcs (o := opK 4) opK_ok).2.2
      have hb27 := awB hcs (opK_ok (k := 4)) rfl hb0
      refine hw_skip ?_; show HW _ _ _ _ _; refine hw_seq ?_; refine hw_region (E := TryzE) Tryzok ?_; refine rq rfl rfl rfl rfl rfl ?_
      refine rg_fcall rfl rfl rfl rfl rfl rfl good20 (c20h l (by omega) ho) (CoHCL.refl _) trivial rfl rfl ?_; (iterate 4 refine rq rfl rfl rfl rfl rfl ?_); refine rm 0 rfl rfl rfl rfl rfl rfl ?_; refine rq rfl rfl rfl rfl rfl ?_
      refine rs rfl rfl rfl rfl rfl ?_; refine rq rfl rfl rfl rfl rfl ?_; refine rg_nil ?_; show HW _ _ _ _ _; refine hw_seq ?_; refine hw_region (E := TryzE) Tryzok ?_; (iterate 2 refine rq rfl rfl rfl rfl rfl ?_)
      refine rg_fcall rfl rfl rfl rfl rfl rfl good21 (hc21.swap 1000 900) (CoHCL.refl _) ⟨⟨_, rfl, CoO.refl _⟩, ⟨_, rfl, CoO.refl _⟩, ⟨_, rfl, CoO.refl _⟩, ⟨_, rfl, CoO.refl _⟩, trivial⟩ rfl rfl ?_; refine rs rfl rfl rfl rfl rfl ?_
      refine rg_nil ?_; show HW _ _ _ _ _; refine hw_seq ?_; refine hw_region (E := TryzE) Tryzok ?_; refine rq rfl rfl rfl rfl rfl ?_
      refine rg_fcall rfl rfl rfl rfl rfl rfl good22 ((c22h (strOf S) hcs.dbV).swap 1000 900) (CoHCL.refl _) ⟨⟨_, rfl, CoO.refl _⟩, ⟨_, rfl, CoO.refl _⟩, ⟨_, rfl, CoO.refl _⟩, ⟨_, rfl, CoO.refl _⟩, trivial⟩ rfl rfl ?_
      refine rq rfl rfl rfl rfl rfl ?_
      refine rg_fcall rfl rfl rfl rfl rfl rfl good23 ((jn23 (by omega) hcs).swap 1000 900) (CoHCL.refl _) ⟨⟨_, rfl, CoO.refl _⟩, ⟨_, rfl, CoO.refl _⟩, ⟨_, rfl, CoO.refl _⟩, ⟨_, rfl, CoO.refl _⟩, trivial⟩ rfl rfl ?_
      refine rm 1 rfl rfl rfl rfl rfl rfl ?_; refine rs rfl rfl rfl rfl rfl ?_; refine rq rfl rfl rfl rfl rfl ?_; refine rg_nil ?_; show HW _ _ _ _ _; (iterate 2 refine hw_seq ?_); refine hw_freeze 11 rfl rfl rfl ?_
      refine hw_region (E := TryzE) Tryzok ?_; (iterate 4 refine rq rfl rfl rfl rfl rfl ?_)
      refine rg_fcall rfl rfl rfl rfl rfl rfl good27 ((hb27).swap 1000 900) (CoHCL.refl _) ⟨⟨_, rfl, CoO.refl _⟩, ⟨_, rfl, CoO.refl _⟩, ⟨_, rfl, CoO.refl _⟩, ⟨_, rfl, CoO.refl _⟩, trivial⟩ rfl rfl ?_
      (iterate 2 refine rq rfl rfl rfl rfl rfl ?_); refine rg_nil ?_; show HW _ _ _ _ _; refine hw_cond _ rfl (fun e => Bool.noConfusion ((bif_fk rfl rfl).symm.trans e)) (fun _ => ?_); refine hw_skip ?_; show HW _ _ _ _ _
      (iterate 2 refine hw_seq ?_); refine hw_region (E := TryzE) Tryzok ?_; (iterate 3 refine rq rfl rfl rfl rfl rfl ?_); refine rg_nil ?_; show HW _ _ _ _ _; refine hw_block ?_
      refine hw_loopK (ι := (Nat × Stt)) ⟨[(2, some _), (7, some _), (8, some _), (10, some _), (11, some _), (48, some _), (49, some _)], [(0, some _), (1, some _)]⟩ ⟨⟨⟨_, rfl, CoR.refl _⟩, ⟨_, rfl, CoR.refl _⟩, ⟨_, rfl, CoR.refl _⟩, ⟨_, rfl, CoR.refl _⟩, ⟨_, rfl, CoR.refl _⟩, ⟨_, rfl, CoR.refl _⟩, ⟨_, rfl, CoR.refl _⟩, trivial⟩, ⟨⟨_, rfl, CoO.refl _⟩, ⟨_, rfl, CoO.refl _⟩, trivial⟩⟩ (fun q => ⟨[(50, some (vI q.1))], [(900, some (.box [.p (tbls (dbOf q.2)), .ref 901 q.2.done.length, .ref 902 q.2.undone.length, .p (.raw (.bool q.2.opn)), .ref 903 q.2.now.length])), (901, some (.arr false 1 23 q.2.done.length (lf txC q.2.done))), (902, some (.arr false 1 23 q.2.undone.length (lf txC q.2.undone))), (903, some (.arr false 11 49 q.2.now.length (lf Chg.c q.2.now)))]⟩) (fun q => q.1 ≤ ch.length ∧ Sim (17 + q.1) q.2 ∧ InTx S q.2) (fun q => ch.length - q.1) ((0, doS S (opK 4))) (⟨Nat.zero_le _, hbs, hbt⟩) ⟨⟨⟨_, rfl, (by first | exact CoR.refl _ | exact coi (by omega) | exact cob (by simp_all))⟩, trivial⟩, ⟨⟨_, rfl, CoO.refl _⟩, ⟨_, rfl, CoO.refl _⟩, ⟨_, rfl, CoO.refl _⟩, ⟨_, rfl, CoO.refl _⟩, trivial⟩⟩ ?_
      rintro ⟨i, s⟩ ⟨hi, hs, hx⟩
      dsimp only at hi hs hx ⊢
      refine hw_seq ?_; refine hw_region (E := TryzE) Tryzok ?_; refine rq rfl rfl rfl rfl rfl ?_; refine rg_nil ?_; show HW _ _ _ _ _; refine hw_seq ?_; refine hw_cond _ rfl (fun r2 => ?_) (fun r2 => ?_)
      · skip
        have h2 := r2
        have h2 := of_decide_eq_true h2
        try simp only [Int.toNat_natCast] at h2
        refine hw_skip ?_; show HW _ _ _ _ _; refine hw_seq ?_; refine hw_block ?_; refine hw_seq ?_; refine hw_region (E := TryzE) Tryzok ?_; (iterate 2 refine rq rfl rfl rfl rfl rfl ?_); refine rm 2 rfl rfl rfl rfl rfl rfl ?_
        refine rs rfl rfl rfl rfl rfl ?_; refine rg_nil ?_; show HW _ _ _ _ _; refine hw_seq ?_; refine hw_region (E := TryzE) Tryzok ?_; (iterate 4 refine rq rfl rfl rfl rfl rfl ?_); refine rs rfl rfl rfl rfl rfl ?_
        refine rg_nil ?_; show HW _ _ _ _ _
        have hs2 := (sim hs (o := m4 (ch.getD i default)) (m4_ok (hc _ (by rw [getD_lt _ _ (by omega)]; exact List.getElem_mem _)))).2.2
        refine hw_region (E := TryzE) Tryzok ?_; (iterate 2 refine rq rfl rfl rfl rfl rfl ?_)
        refine rg_fcall rfl rfl rfl rfl rfl rfl good18 ((c18h (17 + i) s (m4 (ch.getD i default)) (by omega) hs (m4_ok (hc _ (by rw [getD_lt _ _ (by omega)]; exact List.getElem_mem _)))).swap 1000 900) (CoHCL.refl _) ⟨⟨_, rfl, CoO.refl _⟩, ⟨_, rfl, CoO.refl _⟩, ⟨_, rfl, CoO.refl _⟩, ⟨_, rfl, CoO.refl _⟩, trivial⟩ rfl rfl ?_
        refine rg_nil ?_; show HW _ _ _ _ _; refine hw_region (E := TryzE) Tryzok ?_; (iterate 2 refine rq rfl rfl rfl rfl rfl ?_); refine rg_nil ?_; refine ⟨(i + 1, doS s (m4 (ch.getD i default))), ?_, ?_, ?_⟩
        · exact ⟨by dsimp only; omega, hs2, tx_do hx m4_k⟩
        · first | omega | (dsimp only; omega)
        · exact ⟨⟨⟨_, rfl, (by first | exact CoR.refl _ | exact coi (by omega) | exact cob (by simp_all))⟩, ⟨_, rfl, CoR.refl _⟩, ⟨_, rfl, CoR.refl _⟩, ⟨_, rfl, CoR.refl _⟩, ⟨_, rfl, CoR.refl _⟩, ⟨_, rfl, CoR.refl _⟩, ⟨_, rfl, CoR.refl _⟩, ⟨_, rfl, CoR.refl _⟩, trivial⟩, ⟨⟨_, rfl, CoO.refl _⟩, ⟨_, rfl, CoO.refl _⟩, ⟨_, rfl, CoO.refl _⟩, ⟨_, rfl, CoO.refl _⟩, ⟨_, rfl, CoO.refl _⟩, ⟨_, rfl, CoO.refl _⟩, trivial⟩⟩
      · skip
        have h2 := r2
        have h2 := of_decide_eq_false h2
        try simp only [Int.toNat_natCast] at h2
        obtain rfl : i = ch.length := by omega
        refine hw_exit ?_; show HW _ _ _ _ _; (iterate 2 refine hw_seq ?_); refine hw_region (E := TryzE) Tryzok ?_; refine rq rfl rfl rfl rfl rfl ?_; refine rg_nil ?_; show HW _ _ _ _ _
        refine hw_cond _ rfl (fun r3 => ?_) (fun r3 => ?_)
        · skip
          have h3 := r3
          have hK := (sim hs (o := opK 5) opK_ok).2.2
          have q28 := awK (by omega) hs (opK_ok (k := 5)) rfl (tx_com hx)
          (iterate 2 refine hw_seq ?_); refine hw_region (E := TryzE) Tryzok ?_; refine rq rfl rfl rfl rfl rfl ?_
          refine rg_fcall rfl rfl rfl rfl rfl rfl good28 ((q28).swap 1000 900) (CoHCL.refl _) ⟨⟨_, rfl, CoO.refl _⟩, ⟨_, rfl, CoO.refl _⟩, ⟨_, rfl, CoO.refl _⟩, ⟨_, rfl, CoO.refl _⟩, trivial⟩ rfl rfl ?_
          refine rq rfl rfl rfl rfl rfl ?_; refine rg_nil ?_; show HW _ _ _ _ _; refine hw_cond _ rfl (fun e => by cases e) (fun _ => ?_); refine hw_skip ?_; show HW _ _ _ _ _; (iterate 2 refine hw_seq ?_)
          refine hw_region (E := TryzE) Tryzok ?_; refine rq rfl rfl rfl rfl rfl ?_
          refine rg_fcall rfl rfl rfl rfl rfl rfl good23 ((jn23 (by omega) hK).swap 1000 900) (CoHCL.refl _) ⟨⟨_, rfl, CoO.refl _⟩, ⟨_, rfl, CoO.refl _⟩, ⟨_, rfl, CoO.refl _⟩, ⟨_, rfl, CoO.refl _⟩, trivial⟩ rfl rfl ?_
          (iterate 5 refine rq rfl rfl rfl rfl rfl ?_); refine rsplit rfl rfl (fun r4 => ?_) (fun r4 => ?_)
          · skip
            have h4 := r4
            have h4 := of_decide_eq_true h4
            try simp only [Int.toNat_natCast] at h4
            have hz : ¬ s.now.length = 0 := (tx_len hx hopn hnow).1 (by omega)
            obtain ⟨u1, u2, u3⟩ := tx_undo hx hopn hnow hz
            have hU := (sim hK (o := opK 7) opK_ok).2.2
            have q24 := awU (by omega) hK (opK_ok (k := 7)) rfl u1
            have q22 := tu22 (by omega) hU u3
            have q23 := tu23 (by omega) hU u2
            refine rq rfl rfl rfl rfl (gtt r4) ?_
            refine rg_fcall rfl rfl rfl rfl rfl rfl good24 ((q24).swap 1000 900) (CoHCL.refl _) ⟨⟨_, rfl, CoO.refl _⟩, ⟨_, rfl, CoO.refl _⟩, ⟨_, rfl, CoO.refl _⟩, ⟨_, rfl, CoO.refl _⟩, trivial⟩ rfl (gtt r4) ?_
            refine rq rfl rfl rfl rfl (gtt r4) ?_; refine rq rfl rfl rfl rfl rfl ?_; refine rg_nil ?_; show HW _ _ _ _ _; refine hw_cond _ rfl (fun e => Bool.noConfusion ((bif_tk r4 rfl).symm.trans e)) (fun _ => ?_)
            refine hw_skip ?_; show HW _ _ _ _ _; refine hw_seq ?_
            refine hw_clean ⟨[(7, some _), (10, some _), (11, some _)], [(1, some _), (900, some _), (901, some _), (902, some _), (903, some _)]⟩ ⟨⟨⟨_, rfl, CoR.refl _⟩, ⟨_, rfl, CoR.refl _⟩, ⟨_, rfl, CoR.refl _⟩, trivial⟩, ⟨⟨_, rfl, CoO.refl _⟩, ⟨_, rfl, CoO.refl _⟩, ⟨_, rfl, CoO.refl _⟩, ⟨_, rfl, CoO.refl _⟩, ⟨_, rfl, CoO.refl _⟩, trivial⟩⟩ ?_
            refine hw_draw (E := TryzE) Tryzok Tryzmixed [0, 1, 2, 3, 4, 5, 6, 7, 8, 9, 10] ?_; refine rq rfl rfl rfl rfl rfl ?_
            refine rg_fcall rfl rfl rfl rfl rfl rfl good22 ((q22).swap 1000 900) (CoHCL.refl _) ⟨⟨_, rfl, CoO.refl _⟩, ⟨_, rfl, CoO.refl _⟩, ⟨_, rfl, CoO.refl _⟩, ⟨_, rfl, CoO.refl _⟩, trivial⟩ rfl rfl ?_
            refine rq rfl rfl rfl rfl rfl ?_; refine rc rfl rfl rfl rfl rfl rfl good16 (sm16 hcs.dbV.ok) (CoL.refl _) rfl rfl ?_; (iterate 2 refine rq rfl rfl rfl rfl rfl ?_)
            refine rg_fcall rfl rfl rfl rfl rfl rfl good23 ((q23).swap 1000 900) (CoHCL.refl _) ⟨⟨_, rfl, CoO.refl _⟩, ⟨_, rfl, CoO.refl _⟩, ⟨_, rfl, CoO.refl _⟩, ⟨_, rfl, CoO.refl _⟩, trivial⟩ rfl rfl ?_
            refine rq rfl rfl rfl rfl rfl ?_; refine rc rfl rfl rfl rfl rfl rfl good26 (sm26 (mem_chgsOk hcs.ok1)) (CoL.refl _) rfl rfl ?_; (iterate 2 refine rq rfl rfl rfl rfl rfl ?_); refine rg_nil ?_; refine ⟨by kernel_rfl, ?_⟩
            show HW _ _ _ _ _; refine hw_ret ?_; refine ⟨.inr rfl, ?_⟩
            exact ⟨_, _, _, _, rfl, (by (repeat' apply And.intro) <;> first | trivial | exact Nat.le_of_ble_eq_true rfl | rfl), rfl, (by (repeat' apply And.intro) <;> first | trivial | exact Nat.le_of_ble_eq_true rfl | rfl), CoL.refl _⟩
          · skip
            have h4 := r4
            have h4 := of_decide_eq_false h4
            try simp only [Int.toNat_natCast] at h4
            have hz : s.now.length = 0 := Decidable.not_not.1 (fun e => absurd ((tx_len hx hopn hnow).2 e) (by omega))
            have e0 := tx_com0 hx hopn hnow hz
            have q22 := tu22 (by omega) hK (by rw [e0])
            have q23 := tu23 (by omega) hK (by rw [e0])
            (iterate 3 refine rk rfl rfl rfl (gft r4) ?_); refine rq rfl rfl rfl rfl rfl ?_ (hp := r4); refine rg_nil ?_; show HW _ _ _ _ _; refine hw_cond _ rfl (fun e => by cases e) (fun _ => ?_); refine hw_skip ?_
            show HW _ _ _ _ _; refine hw_seq ?_
            refine hw_clean ⟨[(7, some _), (10, some _), (11, some _)], [(1, some _), (900, some _), (901, some _), (902, some _), (903, some _)]⟩ ⟨⟨⟨_, rfl, CoR.refl _⟩, ⟨_, rfl, CoR.refl _⟩, ⟨_, rfl, CoR.refl _⟩, trivial⟩, ⟨⟨_, rfl, CoO.refl _⟩, ⟨_, rfl, CoO.refl _⟩, ⟨_, rfl, CoO.refl _⟩, ⟨_, rfl, CoO.refl _⟩, ⟨_, rfl, CoO.refl _⟩, trivial⟩⟩ ?_
            refine hw_draw (E := TryzE) Tryzok Tryzmixed [0, 1, 2, 3, 4, 5, 6, 7, 8, 9, 10] ?_; refine rq rfl rfl rfl rfl rfl ?_
            refine rg_fcall rfl rfl rfl rfl rfl rfl good22 ((q22).swap 1000 900) (CoHCL.refl _) ⟨⟨_, rfl, CoO.refl _⟩, ⟨_, rfl, CoO.refl _⟩, ⟨_, rfl, CoO.refl _⟩, ⟨_, rfl, CoO.refl _⟩, trivial⟩ rfl rfl ?_
            refine rq rfl rfl rfl rfl rfl ?_; refine rc rfl rfl rfl rfl rfl rfl good16 (sm16 hcs.dbV.ok) (CoL.refl _) rfl rfl ?_; (iterate 2 refine rq rfl rfl rfl rfl rfl ?_)
            refine rg_fcall rfl rfl rfl rfl rfl rfl good23 ((q23).swap 1000 900) (CoHCL.refl _) ⟨⟨_, rfl, CoO.refl _⟩, ⟨_, rfl, CoO.refl _⟩, ⟨_, rfl, CoO.refl _⟩, ⟨_, rfl, CoO.refl _⟩, trivial⟩ rfl rfl ?_
            refine rq rfl rfl rfl rfl rfl ?_; refine rc rfl rfl rfl rfl rfl rfl good26 (sm26 (mem_chgsOk hcs.ok1)) (CoL.refl _) rfl rfl ?_; (iterate 2 refine rq rfl rfl rfl rfl rfl ?_); refine rg_nil ?_; refine ⟨by kernel_rfl, ?_⟩
            show HW _ _ _ _ _; refine hw_ret ?_; refine ⟨.inr rfl, ?_⟩
            exact ⟨_, _, _, _, rfl, (by (repeat' apply And.intro) <;> first | trivial | exact Nat.le_of_ble_eq_true rfl | rfl), rfl, (by (repeat' apply And.intro) <;> first | trivial | exact Nat.le_of_ble_eq_true rfl | rfl), CoL.refl _⟩
        · skip
          have h3 := r3
          have q29 := awX (by omega) hs (opK_ok (k := 6)) rfl (tx_rb hx hopn hnow).1
          rw [(tx_rb hx hopn hnow).2] at q29
          have q25 := awR (by omega) hcs (opK_ok (k := 8)) rfl (re_err hopn)
          refine hw_skip ?_; show HW _ _ _ _ _; (iterate 2 refine hw_seq ?_); refine hw_region (E := TryzE) Tryzok ?_; refine rq rfl rfl rfl rfl rfl ?_
          refine rg_fcall rfl rfl rfl rfl rfl rfl good29 ((q29).swap 1000 900) (CoHCL.refl _) ⟨⟨_, rfl, CoO.refl _⟩, ⟨_, rfl, CoO.refl _⟩, ⟨_, rfl, CoO.refl _⟩, ⟨_, rfl, CoO.refl _⟩, trivial⟩ rfl rfl ?_
          (iterate 4 refine rq rfl rfl rfl rfl rfl ?_)
          refine rg_fcall rfl rfl rfl rfl rfl rfl good19 ((ag19 (by omega) hcs).swap 1000 900) (CoHCL.refl _) ⟨⟨_, rfl, CoO.refl _⟩, ⟨_, rfl, CoO.refl _⟩, ⟨_, rfl, CoO.refl _⟩, ⟨_, rfl, CoO.refl _⟩, trivial⟩ rfl rfl ?_
          (iterate 2 refine rq rfl rfl rfl rfl rfl ?_); refine rg_nil ?_; show HW _ _ _ _ _; refine hw_cond _ rfl (fun e => Bool.noConfusion ((bif_fk rfl rfl).symm.trans e)) (fun _ => ?_); refine hw_skip ?_; show HW _ _ _ _ _
          refine hw_seq ?_; refine hw_region (E := TryzE) Tryzok ?_; refine rq rfl rfl rfl rfl rfl ?_
          refine rg_fcall rfl rfl rfl rfl rfl rfl good25 ((q25).swap 1000 900) (CoHCL.refl _) ⟨⟨_, rfl, CoO.refl _⟩, ⟨_, rfl, CoO.refl _⟩, ⟨_, rfl, CoO.refl _⟩, ⟨_, rfl, CoO.refl _⟩, trivial⟩ rfl rfl ?_
          refine rq rfl rfl rfl rfl rfl ?_; refine rg_nil ?_; show HW _ _ _ _ _; refine hw_seq ?_; refine hw_region (E := TryzE) Tryzok ?_; (iterate 8 refine rq rfl rfl rfl rfl rfl ?_); refine rg_nil ?_; show HW _ _ _ _ _
          refine hw_ret ?_; refine ⟨.inr rfl, ?_⟩
          have e6 : (decide ((if S.undone.length = 0 then (16 : Int) else 0) = 0) == decide ((0 : Int) < (S.undone.length : Int))) = true := by
            by_cases hz : S.undone.length = 0
            · rw [if_pos hz, hz]; decide
            · rw [if_neg hz, decide_eq_true rfl, decide_eq_true (by omega)]; rfl
          exact ⟨_, _, _, _, rfl, (by (repeat' apply And.intro) <;> first | trivial | exact Nat.le_of_ble_eq_true rfl | rfl), rfl, (by (repeat' apply And.intro) <;> first | trivial | exact Nat.le_of_ble_eq_true rfl | rfl), ⟨ccb e6, trivial⟩⟩
end Go.Hx
end
