/- A part of the proof: lemmas for the theorem of this claim, merged by a program of ours out of W39, W43. -/
import Derived.Test.YtdcdbghdgjlhhaaGreatN33
import Derived.Test.YtdcdbghdgjlhhaaGreatN34
set_option linter.all false
section
namespace Go.Hx
open Go.Proofs
set_option maxRecDepth 100000
theorem c4 (l : List Opn) : HPure Tryz.prog 4 [pP (opns l)] (prOf [pB true]) := by
  refine hpure_of (nt := 44) Tryzok Tryz.func4 rfl rfl (Nat.le_of_ble_eq_true rfl) ?_; refine hw_seq ?_; refine hw_region (E := TryzE) Tryzok ?_; refine rq rfl rfl rfl rfl rfl ?_; refine rg_nil ?_; show HW _ _ _ _ _
  (iterate 2 refine hw_seq ?_); refine hw_region (E := TryzE) Tryzok ?_; refine rc rfl rfl rfl rfl rfl rfl good9 (c9) (CoL.refl _) rfl rfl ?_; (iterate 3 refine rq rfl rfl rfl rfl rfl ?_)
  refine rc rfl rfl rfl rfl rfl rfl good10 (c10 l 25) (CoL.refl _) rfl rfl ?_; (iterate 2 refine rq rfl rfl rfl rfl rfl ?_); refine rg_nil ?_; show HW _ _ _ _ _; refine hw_cond _ rfl (fun r0 => ?_) (fun r0 => ?_)
  · skip
    have h0 := r0
    have h0 := not_t h0
    refine hw_seq ?_; refine hw_region (E := TryzE) Tryzok ?_; refine rc rfl rfl rfl rfl rfl rfl good9 (c9) (CoL.refl _) rfl rfl ?_; refine rq rfl rfl rfl rfl rfl ?_; refine rg_nil ?_; show HW _ _ _ _ _; refine hw_ret ?_
    refine ⟨.inr rfl, ?_⟩
    exact ⟨_, _, _, _, rfl, (by (repeat' apply And.intro) <;> first | trivial | exact Nat.le_of_ble_eq_true rfl | rfl), rfl, (by (repeat' apply And.intro) <;> first | trivial | exact Nat.le_of_ble_eq_true rfl | rfl), CoL.refl _⟩
  · skip
    have h0 := r0
    have h0 := not_f h0
    obtain ⟨ho, hlen⟩ := few_ops (l := l) (m := 25) (by simpa using h0)
    have hlen2 : l.length ≤ 25 := by omega
    refine hw_skip ?_; show HW _ _ _ _ _; refine hw_seq ?_; refine hw_region (E := TryzE) Tryzok ?_; refine rg_fcall rfl rfl rfl rfl rfl rfl good17 (c17h) (CoHCL.refl _) trivial rfl rfl ?_; refine rq rfl rfl rfl rfl rfl ?_
    refine rm 0 rfl rfl rfl rfl rfl rfl ?_; refine rq rfl rfl rfl rfl rfl ?_; refine rs rfl rfl rfl rfl rfl ?_; refine rg_nil ?_; show HW _ _ _ _ _; (iterate 2 refine hw_seq ?_); refine hw_region (E := TryzE) Tryzok ?_
    (iterate 3 refine rq rfl rfl rfl rfl rfl ?_); refine rg_nil ?_; show HW _ _ _ _ _; refine hw_block ?_
    refine hw_loopK (ι := (Nat × Stt)) ⟨[(3, some _), (4, some _), (19, some _), (20, some _)], []⟩ ⟨⟨⟨_, rfl, CoR.refl _⟩, ⟨_, rfl, CoR.refl _⟩, ⟨_, rfl, CoR.refl _⟩, ⟨_, rfl, CoR.refl _⟩, trivial⟩, trivial⟩ (fun q => ⟨[(21, some (vI q.1))], [(0, some (.box [.p (txs q.2.done), .p (txs q.2.undone), .p (.raw (.bool q.2.opn)), .p (chgs q.2.now)])), (900, some (.box [.p (tbls (dbOf q.2)), .ref 901 q.2.done.length, .ref 902 q.2.undone.length, .p (.raw (.bool q.2.opn)), .ref 903 q.2.now.length])), (901, some (.arr false 1 23 q.2.done.length (lf txC q.2.done))), (902, some (.arr false 1 23 q.2.undone.length (lf txC q.2.undone))), (903, some (.arr false 11 49 q.2.now.length (lf Chg.c q.2.now)))]⟩) (fun q => q.1 ≤ l.length ∧ Sim q.1 q.2) (fun q => l.length - q.1) ((0, default)) (⟨Nat.zero_le _, sim00⟩) ⟨⟨⟨_, rfl, (by first | exact CoR.refl _ | exact coi (by omega) | exact cob (by simp_all))⟩, trivial⟩, ⟨⟨_, rfl, ⟨co_nil, co_nil, CoH.refl _, co_nil, trivial⟩⟩, ⟨_, rfl, CoO.refl _⟩, ⟨_, rfl, CoO.refl _⟩, ⟨_, rfl, CoO.refl _⟩, ⟨_, rfl, CoO.refl _⟩, trivial⟩⟩ ?_
    rintro ⟨i, s⟩ ⟨hi, hs⟩
    dsimp only at hi hs ⊢
    refine hw_seq ?_; refine hw_region (E := TryzE) Tryzok ?_; refine rq rfl rfl rfl rfl rfl ?_; refine rg_nil ?_; show HW _ _ _ _ _; refine hw_seq ?_; refine hw_cond _ rfl (fun r1 => ?_) (fun r1 => ?_)
    · skip
      have h1 := r1
      have h1 := of_decide_eq_true h1
      try simp only [Int.toNat_natCast] at h1
      refine hw_skip ?_; show HW _ _ _ _ _; refine hw_seq ?_; refine hw_block ?_; refine hw_seq ?_; refine hw_region (E := TryzE) Tryzok ?_; (iterate 2 refine rq rfl rfl rfl rfl rfl ?_); refine rm 1 rfl rfl rfl rfl rfl rfl ?_
      refine rs rfl rfl rfl rfl rfl ?_; refine rg_nil ?_; show HW _ _ _ _ _; refine hw_seq ?_; refine hw_region (E := TryzE) Tryzok ?_; (iterate 2 refine rq rfl rfl rfl rfl rfl ?_)
      refine rc rfl rfl rfl rfl rfl rfl good11 (c11 s (l.getD i default) (hs.st (by omega)) (ho _ (by rw [getD_lt _ _ (by omega)]; exact List.getElem_mem _))) (CoL.refl _) rfl rfl ?_; (iterate 3 refine rq rfl rfl rfl rfl rfl ?_)
      refine rm 2 rfl rfl rfl rfl rfl rfl ?_; refine rs rfl rfl rfl rfl rfl ?_; refine rq rfl rfl rfl rfl rfl ?_; refine rg_nil ?_; show HW _ _ _ _ _; (iterate 2 refine hw_seq ?_)
      have hs2 := (sim hs (o := l.getD i default) (ho _ (by rw [getD_lt _ _ (by omega)]; exact List.getElem_mem _))).2.2
      refine hw_region (E := TryzE) Tryzok ?_; (iterate 2 refine rq rfl rfl rfl rfl rfl ?_)
      refine rg_fcall rfl rfl rfl rfl rfl rfl good18 ((c18h i s (l.getD i default) (by omega) hs (ho _ (by rw [getD_lt _ _ (by omega)]; exact List.getElem_mem _))).swap 1000 900) (CoHCL.refl _) ⟨⟨_, rfl, CoO.refl _⟩, ⟨_, rfl, CoO.refl _⟩, ⟨_, rfl, CoO.refl _⟩, ⟨_, rfl, CoO.refl _⟩, trivial⟩ rfl rfl ?_
      (iterate 3 refine rq rfl rfl rfl rfl rfl ?_); refine rsplit rfl rfl (fun r2 => ?_) (fun r2 => ?_)
      · skip
        have h2 := r2
        have h2 := of_decide_eq_false (not_t h2)
        try simp only [Int.toNat_natCast] at h2
        exact absurd r2 (by simp)
      · skip
        have h2 := r2
        have h2 := of_decide_eq_true (not_f h2)
        try simp only [Int.toNat_natCast] at h2
        (iterate 2 refine rq rfl rfl rfl rfl (gff r2) ?_)
        refine rg_fcall rfl rfl rfl rfl rfl rfl good19 ((ag19 (by omega) hs2).swap 1000 900) (CoHCL.refl _) ⟨⟨_, rfl, CoO.refl _⟩, ⟨_, rfl, CoO.refl _⟩, ⟨_, rfl, CoO.refl _⟩, ⟨_, rfl, CoO.refl _⟩, trivial⟩ rfl (gff r2) ?_
        refine rq rfl rfl rfl rfl (gff r2) ?_; refine rq rfl rfl rfl rfl rfl ?_; refine rg_nil ?_; show HW _ _ _ _ _; refine hw_cond _ rfl (fun e => Bool.noConfusion ((bif_fk r2 rfl).symm.trans e)) (fun _ => ?_); refine hw_skip ?_
        show HW _ _ _ _ _; refine hw_region (E := TryzE) Tryzok ?_; refine rq rfl rfl rfl rfl rfl ?_; refine rs rfl rfl rfl rfl rfl ?_; refine rg_nil ?_; show HW _ _ _ _ _; refine hw_region (E := TryzE) Tryzok ?_
        (iterate 2 refine rq rfl rfl rfl rfl rfl ?_); refine rg_nil ?_; refine ⟨(i + 1, doS s (l.getD i default)), ?_, ?_, ?_⟩
        · exact ⟨by dsimp only; omega, hs2⟩
        · first | omega | (dsimp only; omega)
        · exact ⟨⟨⟨_, rfl, (by first | exact CoR.refl _ | exact coi (by omega) | exact cob (by simp_all))⟩, ⟨_, rfl, CoR.refl _⟩, ⟨_, rfl, CoR.refl _⟩, ⟨_, rfl, CoR.refl _⟩, ⟨_, rfl, CoR.refl _⟩, trivial⟩, ⟨⟨_, rfl, CoO.refl _⟩, ⟨_, rfl, CoO.refl _⟩, ⟨_, rfl, CoO.refl _⟩, ⟨_, rfl, CoO.refl _⟩, ⟨_, rfl, CoO.refl _⟩, trivial⟩⟩
    · skip
      have h1 := r1
      have h1 := of_decide_eq_false h1
      try simp only [Int.toNat_natCast] at h1
      skip
      refine hw_exit ?_; show HW _ _ _ _ _; refine hw_seq ?_; refine hw_region (E := TryzE) Tryzok ?_; refine rq rfl rfl rfl rfl rfl ?_; refine rg_nil ?_; show HW _ _ _ _ _; refine hw_ret ?_; refine ⟨.inr rfl, ?_⟩
      exact ⟨_, _, _, _, rfl, (by (repeat' apply And.intro) <;> first | trivial | exact Nat.le_of_ble_eq_true rfl | rfl), rfl, (by (repeat' apply And.intro) <;> first | trivial | exact Nat.le_of_ble_eq_true rfl | rfl), CoL.refl _⟩
end Go.Hx
end
section
namespace Go.Hx
open Go.Proofs
set_option maxRecDepth 100000
theorem c3 (l : List Opn) (sp : List Chg) (k8 : UInt8) (hB : Few sp) : HPure Tryz.prog 3 [pP (opns l), pP (chgs sp), pU (k8.toNat : Int)] (prOf [pB true]) := by
  refine hpure_of (nt := 115) Tryzok Tryz.func3 rfl rfl (Nat.le_of_ble_eq_true rfl) ?_; refine hw_seq ?_; refine hw_region (E := TryzE) Tryzok ?_; refine rq rfl rfl rfl rfl rfl ?_; refine rg_nil ?_; show HW _ _ _ _ _
  (iterate 2 refine hw_seq ?_); refine hw_region (E := TryzE) Tryzok ?_; refine rc rfl rfl rfl rfl rfl rfl good9 (c9) (CoL.refl _) rfl rfl ?_; (iterate 3 refine rq rfl rfl rfl rfl rfl ?_)
  refine rc rfl rfl rfl rfl rfl rfl good10 (c10 l 15) (CoL.refl _) rfl rfl ?_; (iterate 3 refine rq rfl rfl rfl rfl rfl ?_); refine rsplit rfl rfl (fun r0 => ?_) (fun r0 => ?_)
  · skip
    have h0 := r0
    have h0 := not_t h0
    (iterate 3 refine rk rfl rfl rfl (gtf r0) ?_); refine rq rfl rfl rfl rfl rfl ?_ (hp := r0); refine rg_nil ?_; show HW _ _ _ _ _; refine hw_cond _ rfl (fun _ => ?_) (fun e => by cases e); refine hw_seq ?_
    refine hw_region (E := TryzE) Tryzok ?_; refine rc rfl rfl rfl rfl rfl rfl good9 (c9) (CoL.refl _) rfl rfl ?_; refine rq rfl rfl rfl rfl rfl ?_; refine rg_nil ?_; show HW _ _ _ _ _; refine hw_ret ?_; refine ⟨.inr rfl, ?_⟩
    exact ⟨_, _, _, _, rfl, (by (repeat' apply And.intro) <;> first | trivial | exact Nat.le_of_ble_eq_true rfl | rfl), rfl, (by (repeat' apply And.intro) <;> first | trivial | exact Nat.le_of_ble_eq_true rfl | rfl), CoL.refl _⟩
  · skip
    have h0 := r0
    have h0 := not_f h0
    obtain ⟨ho, hlen⟩ := few_ops (l := l) (m := 15) (by simpa using h0)
    (iterate 3 refine rq rfl rfl rfl rfl (gff r0) ?_); refine rq rfl rfl rfl rfl rfl ?_; refine rg_nil ?_; show HW _ _ _ _ _; refine hw_cond _ rfl (fun r1 => ?_) (fun r1 => ?_)
    · skip
      have h1 := r1
      have h1 := bif_f r0 h1
      have h1 := of_decide_eq_true h1
      try simp only [Int.toNat_natCast] at h1
      refine hw_seq ?_; refine hw_region (E := TryzE) Tryzok ?_; refine rc rfl rfl rfl rfl rfl rfl good9 (c9) (CoL.refl _) rfl rfl ?_; refine rq rfl rfl rfl rfl rfl ?_; refine rg_nil ?_; show HW _ _ _ _ _; refine hw_ret ?_
      refine ⟨.inr rfl, ?_⟩
      exact ⟨_, _, _, _, rfl, (by (repeat' apply And.intro) <;> first | trivial | exact Nat.le_of_ble_eq_true rfl | rfl), rfl, (by (repeat' apply And.intro) <;> first | trivial | exact Nat.le_of_ble_eq_true rfl | rfl), CoL.refl _⟩
    · skip
      have h1 := r1
      have h1 := bif_f r0 h1
      have h1 := of_decide_eq_false h1
      try simp only [Int.toNat_natCast] at h1
      have hlen2 : l.length ≤ 15 := by omega
      have hsp5 : sp.length ≤ 5 := by omega
      refine hw_skip ?_; show HW _ _ _ _ _; refine hw_seq ?_; refine hw_region (E := TryzE) Tryzok ?_; refine rq rfl rfl rfl rfl rfl ?_; refine rm 0 rfl rfl rfl rfl rfl rfl ?_; refine rs rfl rfl rfl rfl rfl ?_; refine rg_nil ?_
      show HW _ _ _ _ _; (iterate 2 refine hw_seq ?_); refine hw_region (E := TryzE) Tryzok ?_; (iterate 3 refine rq rfl rfl rfl rfl rfl ?_); refine rg_nil ?_; show HW _ _ _ _ _; refine hw_block ?_
      refine hw_loopK (ι := (Nat × Stt)) ⟨[(1, some _), (2, some _), (7, some _), (31, some _), (32, some _)], []⟩ ⟨⟨⟨_, rfl, CoR.refl _⟩, ⟨_, rfl, CoR.refl _⟩, ⟨_, rfl, CoR.refl _⟩, ⟨_, rfl, CoR.refl _⟩, ⟨_, rfl, CoR.refl _⟩, trivial⟩, trivial⟩ (fun q => ⟨[(33, some (vI q.1))], [(0, some (.box [.p (txs q.2.done), .p (txs q.2.undone), .p (.raw (.bool q.2.opn)), .p (chgs q.2.now)]))]⟩) (fun q => q.1 ≤ l.length ∧ Sim q.1 q.2) (fun q => l.length - q.1) ((0, default)) (⟨Nat.zero_le _, sim00⟩) ⟨⟨⟨_, rfl, (by first | exact CoR.refl _ | exact coi (by omega) | exact cob (by simp_all))⟩, trivial⟩, ⟨⟨_, rfl, ⟨co_nil, co_nil, CoH.refl _, co_nil, trivial⟩⟩, trivial⟩⟩ ?_
      rintro ⟨i, s⟩ ⟨hi, hs⟩
      dsimp only at hi hs ⊢
      refine hw_seq ?_; refine hw_region (E := TryzE) Tryzok ?_; refine rq rfl rfl rfl rfl rfl ?_; refine rg_nil ?_; show HW _ _ _ _ _; refine hw_seq ?_; refine hw_cond _ rfl (fun r2 => ?_) (fun r2 => ?_)
      · skip
        have h2 := r2
        have h2 := of_decide_eq_true h2
        try simp only [Int.toNat_natCast] at h2
        refine hw_skip ?_; show HW _ _ _ _ _; refine hw_seq ?_; refine hw_block ?_; refine hw_seq ?_; refine hw_region (E := TryzE) Tryzok ?_; (iterate 2 refine rq rfl rfl rfl rfl rfl ?_); refine rm 1 rfl rfl rfl rfl rfl rfl ?_
        refine rs rfl rfl rfl rfl rfl ?_; refine rg_nil ?_; show HW _ _ _ _ _; refine hw_region (E := TryzE) Tryzok ?_; (iterate 2 refine rq rfl rfl rfl rfl rfl ?_)
        refine rc rfl rfl rfl rfl rfl rfl good11 (c11 s (l.getD i default) (hs.st (by omega)) (ho _ (by rw [getD_lt _ _ (by omega)]; exact List.getElem_mem _))) (CoL.refl _) rfl rfl ?_; (iterate 3 refine rq rfl rfl rfl rfl rfl ?_)
        refine rs rfl rfl rfl rfl rfl ?_; refine rg_nil ?_; show HW _ _ _ _ _
        have hs2 := (sim hs (o := l.getD i default) (ho _ (by rw [getD_lt _ _ (by omega)]; exact List.getElem_mem _))).2.2
        refine hw_region (E := TryzE) Tryzok ?_; (iterate 2 refine rq rfl rfl rfl rfl rfl ?_); refine rg_nil ?_; refine ⟨(i + 1, doS s (l.getD i default)), ?_, ?_, ?_⟩
        · exact ⟨by dsimp only; omega, hs2⟩
        · first | omega | (dsimp only; omega)
        · exact ⟨⟨⟨_, rfl, (by first | exact CoR.refl _ | exact coi (by omega) | exact cob (by simp_all))⟩, ⟨_, rfl, CoR.refl _⟩, ⟨_, rfl, CoR.refl _⟩, ⟨_, rfl, CoR.refl _⟩, ⟨_, rfl, CoR.refl _⟩, ⟨_, rfl, CoR.refl _⟩, trivial⟩, ⟨⟨_, rfl, CoO.refl _⟩, trivial⟩⟩
      · skip
        have h2 := r2
        have h2 := of_decide_eq_false h2
        try simp only [Int.toNat_natCast] at h2
        obtain rfl : i = l.length := by omega
        have hJ := hs.n1
        refine hw_exit ?_; show HW _ _ _ _ _; refine hw_seq ?_; refine hw_region (E := TryzE) Tryzok ?_; refine rq rfl rfl rfl rfl rfl ?_
        refine rg_fcall rfl rfl rfl rfl rfl rfl good12 ((c12h s (by omega)).res1 900) (CoHCL.refl _) trivial rfl rfl ?_; refine rq rfl rfl rfl rfl rfl ?_; refine rg_nil ?_; show HW _ _ _ _ _; (iterate 2 refine hw_seq ?_)
        refine hw_region (E := TryzE) Tryzok ?_; (iterate 3 refine rq rfl rfl rfl rfl rfl ?_); refine rg_nil ?_; show HW _ _ _ _ _; refine hw_block ?_
        refine hw_loopK (ι := Nat) ⟨[(1, some _), (2, some _), (10, some _), (46, some _), (47, some _)], []⟩ ⟨⟨⟨_, rfl, CoR.refl _⟩, ⟨_, rfl, CoR.refl _⟩, ⟨_, rfl, CoR.refl _⟩, ⟨_, rfl, CoR.refl _⟩, ⟨_, rfl, CoR.refl _⟩, trivial⟩, trivial⟩ (fun i => ⟨[(48, some (vI i))], [(900, some (.arr true 11 49 s.done.flatten.length (lf Chg.c s.done.flatten)))]⟩) (fun i => i ≤ sp.length) (fun i => sp.length - i) (0) (Nat.zero_le _) ⟨⟨⟨_, rfl, (by first | exact CoR.refl _ | exact coi (by omega) | exact cob (by simp_all))⟩, trivial⟩, ⟨⟨_, rfl, CoO.refl _⟩, trivial⟩⟩ ?_
        rintro i hi
        refine hw_seq ?_; refine hw_region (E := TryzE) Tryzok ?_; refine rq rfl rfl rfl rfl rfl ?_; refine rg_nil ?_; show HW _ _ _ _ _; refine hw_seq ?_; refine hw_cond _ rfl (fun r3 => ?_) (fun r3 => ?_)
        · skip
          have h3 := r3
          have h3 := of_decide_eq_true h3
          try simp only [Int.toNat_natCast] at h3
          refine hw_skip ?_; show HW _ _ _ _ _; refine hw_seq ?_; refine hw_block ?_; refine hw_seq ?_; refine hw_region (E := TryzE) Tryzok ?_; (iterate 2 refine rq rfl rfl rfl rfl rfl ?_); refine rm 2 rfl rfl rfl rfl rfl rfl ?_
          refine rs rfl rfl rfl rfl rfl ?_; refine rg_nil ?_; show HW _ _ _ _ _; refine hw_seq ?_
          obtain ⟨z1, z2, z3, z4⟩ := hB i (by omega)
          have z5 := z2.1
          unfold BVal at z4
          refine hw_region (E := TryzE) Tryzok ?_; (iterate 6 refine rq rfl rfl rfl rfl rfl ?_); refine rsplit rfl rfl (fun r4 => ?_) (fun r4 => ?_)
          · skip
            have h4 := r4
            have h4 := of_decide_eq_true h4
            try simp only [Int.toNat_natCast] at h4
            (iterate 5 refine rk rfl rfl rfl (gtf r4) ?_); refine rq rfl rfl rfl rfl rfl ?_ (hp := r4); refine rq rfl rfl rfl rfl rfl ?_; (iterate 5 refine rk rfl rfl rfl rfl ?_); (iterate 2 refine rq rfl rfl rfl rfl rfl ?_)
            (iterate 14 refine rk rfl rfl rfl rfl ?_); refine rq rfl rfl rfl rfl rfl ?_; refine rg_nil ?_; show HW _ _ _ _ _; refine hw_cond _ rfl (fun _ => ?_) (fun e => by cases e); refine hw_seq ?_
            refine hw_region (E := TryzE) Tryzok ?_; refine rq rfl rfl rfl rfl rfl ?_; refine rg_nil ?_; show HW _ _ _ _ _; refine hw_ret ?_; refine ⟨.inr rfl, ?_⟩
            exact ⟨_, _, _, _, rfl, (by (repeat' apply And.intro) <;> first | trivial | exact Nat.le_of_ble_eq_true rfl | rfl), rfl, (by (repeat' apply And.intro) <;> first | trivial | exact Nat.le_of_ble_eq_true rfl | rfl), CoL.refl _⟩
          · skip
            have h4 := r4
            have h4 := of_decide_eq_false h4
            try simp only [Int.toNat_natCast] at h4
            (iterate 5 refine rq rfl rfl rfl rfl (gff r4) ?_); (iterate 2 refine rq rfl rfl rfl rfl rfl ?_); refine rsplit rfl rfl (fun r5 => ?_) (fun r5 => ?_)
            · skip
              have h5 := r5
              have h5 := bif_f r4 h5
              have h5 := of_decide_eq_true h5
              try simp only [Int.toNat_natCast] at h5
              (iterate 5 refine rk rfl rfl rfl (gtf r5) ?_); refine rq rfl rfl rfl rfl rfl ?_ (hp := r5); refine rq rfl rfl rfl rfl rfl ?_; (iterate 14 refine rk rfl rfl rfl rfl ?_); refine rq rfl rfl rfl rfl rfl ?_
              refine rg_nil ?_; show HW _ _ _ _ _; refine hw_cond _ rfl (fun _ => ?_) (fun e => by cases e); refine hw_seq ?_; refine hw_region (E := TryzE) Tryzok ?_; refine rq rfl rfl rfl rfl rfl ?_; refine rg_nil ?_
              show HW _ _ _ _ _; refine hw_ret ?_; refine ⟨.inr rfl, ?_⟩
              exact ⟨_, _, _, _, rfl, (by (repeat' apply And.intro) <;> first | trivial | exact Nat.le_of_ble_eq_true rfl | rfl), rfl, (by (repeat' apply And.intro) <;> first | trivial | exact Nat.le_of_ble_eq_true rfl | rfl), CoL.refl _⟩
            · skip
              have h5 := r5
              have h5 := bif_f r4 h5
              have h5 := of_decide_eq_false h5
              try simp only [Int.toNat_natCast] at h5
              (iterate 5 refine rq rfl rfl rfl rfl (gff r5) ?_); (iterate 2 refine rq rfl rfl rfl rfl rfl ?_); refine rsplit rfl rfl (fun r6 => ?_) (fun r6 => ?_)
              · skip
                have h6 := r6
                have h6 := bif_f r5 h6
                have h6 := of_decide_eq_true h6
                try simp only [Int.toNat_natCast] at h6
                (iterate 14 refine rk rfl rfl rfl (gtf r6) ?_); refine rq rfl rfl rfl rfl rfl ?_ (hp := r6); refine rg_nil ?_; show HW _ _ _ _ _; refine hw_cond _ rfl (fun _ => ?_) (fun e => by cases e); refine hw_seq ?_
                refine hw_region (E := TryzE) Tryzok ?_; refine rq rfl rfl rfl rfl rfl ?_; refine rg_nil ?_; show HW _ _ _ _ _; refine hw_ret ?_; refine ⟨.inr rfl, ?_⟩
                exact ⟨_, _, _, _, rfl, (by (repeat' apply And.intro) <;> first | trivial | exact Nat.le_of_ble_eq_true rfl | rfl), rfl, (by (repeat' apply And.intro) <;> first | trivial | exact Nat.le_of_ble_eq_true rfl | rfl), CoL.refl _⟩
              · skip
                have h6 := r6
                have h6 := bif_f r5 h6
                have h6 := of_decide_eq_false h6
                try simp only [Int.toNat_natCast] at h6
                (iterate 7 refine rq rfl rfl rfl rfl (gff r6) ?_); refine rqw rfl rfl rfl rfl (gff r6) ?_; (iterate 4 refine rq rfl rfl rfl rfl (gff r6) ?_); refine rqw rfl rfl rfl rfl (gff r6) ?_
                refine rq rfl rfl rfl rfl (gff r6) ?_; refine rq rfl rfl rfl rfl rfl ?_; refine rg_nil ?_; show HW _ _ _ _ _; refine hw_cond _ rfl (fun r7 => ?_) (fun r7 => ?_)
                · skip
                  have h7 := r7
                  have h7 := bif_f r6 h7
                  have h7 := of_decide_eq_true h7
                  try simp only [Int.toNat_natCast] at h7
                  refine hw_seq ?_; refine hw_region (E := TryzE) Tryzok ?_; refine rq rfl rfl rfl rfl rfl ?_; refine rg_nil ?_; show HW _ _ _ _ _; refine hw_ret ?_; refine ⟨.inr rfl, ?_⟩
                  exact ⟨_, _, _, _, rfl, (by (repeat' apply And.intro) <;> first | trivial | exact Nat.le_of_ble_eq_true rfl | rfl), rfl, (by (repeat' apply And.intro) <;> first | trivial | exact Nat.le_of_ble_eq_true rfl | rfl), CoL.refl _⟩
                · skip
                  have h7 := r7
                  have h7 := bif_f r6 h7
                  have h7 := of_decide_eq_false h7
                  try simp only [Int.toNat_natCast] at h7
                  refine hw_skip ?_; show HW _ _ _ _ _; refine hw_region (E := TryzE) Tryzok ?_; (iterate 2 refine rq rfl rfl rfl rfl rfl ?_); refine rg_nil ?_; refine ⟨i + 1, ?_, ?_, ?_⟩
                  · show i + 1 ≤ _; omega
                  · first | omega | (dsimp only; omega)
                  · exact ⟨⟨⟨_, rfl, (by first | exact CoR.refl _ | exact coi (by omega) | exact cob (by simp_all))⟩, ⟨_, rfl, CoR.refl _⟩, ⟨_, rfl, CoR.refl _⟩, ⟨_, rfl, CoR.refl _⟩, ⟨_, rfl, CoR.refl _⟩, ⟨_, rfl, CoR.refl _⟩, trivial⟩, ⟨⟨_, rfl, CoO.refl _⟩, trivial⟩⟩
        · skip
          have h3 := r3
          have h3 := of_decide_eq_false h3
          try simp only [Int.toNat_natCast] at h3
          obtain rfl : i = sp.length := by omega
          have hk8 := k8.toNat_lt
          refine hw_exit ?_; show HW _ _ _ _ _; refine hw_seq ?_; refine hw_region (E := TryzE) Tryzok ?_; (iterate 8 refine rq rfl rfl rfl rfl rfl ?_)
          refine rg_fcall rfl rfl rfl rfl rfl rfl good13 (insJ13 (J := s.done.flatten) (i := atJ k8 s.done.flatten.length) atJ_le (by omega)) (CoHCL.refl _) ⟨⟨_, rfl, CoO.refl _⟩, trivial⟩ rfl rfl ?_
          refine rq rfl rfl rfl rfl rfl ?_; refine rg_nil ?_; show HW _ _ _ _ _; refine hw_seq ?_; refine hw_freeze 10 rfl rfl rfl ?_
          have hL := insJ_ok (i := atJ k8 s.done.flatten.length) hs.ok1 hB.ok
          refine hw_region (E := TryzE) Tryzok ?_; refine rq rfl rfl rfl rfl rfl ?_; refine rc rfl rfl rfl rfl rfl rfl good14 (c14 _ hL) (CoL.refl _) rfl rfl ?_; (iterate 3 refine rq rfl rfl rfl rfl rfl ?_)
          refine rm 3 rfl rfl rfl rfl rfl rfl ?_; refine rs rfl rfl rfl rfl rfl ?_; refine rq rfl rfl rfl rfl rfl ?_; refine rg_nil ?_; show HW _ _ _ _ _; refine hw_seq ?_; refine hw_region (E := TryzE) Tryzok ?_
          refine rq rfl rfl rfl rfl rfl ?_; refine rc rfl rfl rfl rfl rfl rfl good15 (c15 _ hL) (CoL.refl _) rfl rfl ?_; (iterate 3 refine rq rfl rfl rfl rfl rfl ?_); refine rm 4 rfl rfl rfl rfl rfl rfl ?_
          refine rs rfl rfl rfl rfl rfl ?_; refine rq rfl rfl rfl rfl rfl ?_; refine rg_nil ?_; show HW _ _ _ _ _; refine hw_seq ?_; refine hw_region (E := TryzE) Tryzok ?_; (iterate 4 refine rq rfl rfl rfl rfl rfl ?_)
          refine rsplit rfl rfl (fun r8 => ?_) (fun r8 => ?_)
          · skip
            have h8 := r8
            have h8 := of_decide_eq_true h8
            try simp only [Int.toNat_natCast] at h8
            (iterate 2 refine rq rfl rfl rfl rfl (gtt r8) ?_); refine rc rfl rfl rfl rfl rfl rfl good16 (sm16 (repl_V dbV_nil).ok) (CoL.refl _) rfl (gtt r8) ?_; (iterate 2 refine rq rfl rfl rfl rfl rfl ?_); refine rg_nil ?_
            show HW _ _ _ _ _; refine hw_ret ?_; refine ⟨.inr rfl, ?_⟩
            exact ⟨_, _, _, _, rfl, (by (repeat' apply And.intro) <;> first | trivial | exact Nat.le_of_ble_eq_true rfl | rfl), rfl, (by (repeat' apply And.intro) <;> first | trivial | exact Nat.le_of_ble_eq_true rfl | rfl), ⟨ccb (by simp), trivial⟩⟩
          · skip
            have h8 := r8
            have h8 := of_decide_eq_false h8
            try simp only [Int.toNat_natCast] at h8
            exact absurd r8 (by simp)
end Go.Hx
end
