/- A part of the proof: lemmas for the theorem of this claim, merged by a program of ours out of W4. -/
import Derived.Test.YtdcdbghdgjlhhaaGreatN15
set_option linter.all false
section
namespace Go.Hx
open Go.Proofs
set_option maxRecDepth 100000
abbrev vpL (ps : List PV) : PV := .vp ps.length fun j => ps.getD j .any
theorem rE {n : Nat} {l : List Row} {i : Nat} {b e : Int} (hi : i < l.length) (h : rowsErr n b (l.drop i) = e) : (if (l.getD i default).id ≤ b then 1 else if (l.getD i default).vals.length ≠ n then 6 else if ((l.getD i default).vals.all okVal) = false then 1 else rowsErr n (l.getD i default).id (l.drop (i + 1))) = e := by rw [← rowsErr_drop hi]; exact h
theorem tE {t : Tbl} {e : Int} (h0 : isNm t.name = true) (h1 : ¬ 16 < t.attrs.length) (h2 : ¬ 1000 < t.rows.length) (h3 : nmsOk t.attrs = true) (h : rowsErr t.attrs.length 0 t.rows = e) : tblErr t = e := by
  have : ¬ (16 < t.attrs.length ∨ 1000 < t.rows.length) := by omega
  simp [tblErr, h0, h3, h, this]
theorem tE1 {t : Tbl} (h0 : isNm t.name = false) : tblErr t = 1 := by simp [tblErr, h0]
theorem tE3 {t : Tbl} (h0 : isNm t.name = true) (h1 : 16 < t.attrs.length ∨ 1000 < t.rows.length) : tblErr t = 3 := by simp [tblErr, h0, h1]
theorem tE2 {t : Tbl} (h0 : isNm t.name = true) (h1 : ¬ 16 < t.attrs.length) (h2 : ¬ 1000 < t.rows.length) (h3 : nmsOk t.attrs = false) : tblErr t = 1 := by
  have : ¬ (16 < t.attrs.length ∨ 1000 < t.rows.length) := by omega
  simp [tblErr, h0, h3, this]
theorem good92 : goodFn Tryz.prog 92 := ⟨Tryz.f92, Tryz.func92, by kernel_rfl, by kernel_rfl⟩
theorem c92 (r : Row) (id : Int) : HPure Tryz.prog 92 [r.pc, pP (vpL [.raw (.int .i64 id)])] (prOf [pB (decide (r.id = id))]) := by
  refine hpure_of (nt := 8) Tryzok Tryz.func92 rfl rfl (Nat.le_of_ble_eq_true rfl) ?_; refine hw_seq ?_; refine hw_region (E := TryzE) Tryzok ?_; refine rm 0 rfl rfl rfl rfl rfl rfl ?_; refine rq rfl rfl rfl rfl rfl ?_
  refine rg_nil ?_; show HW _ _ _ _ _; refine hw_seq ?_; refine hw_region (E := TryzE) Tryzok ?_; (iterate 5 refine rq rfl rfl rfl rfl rfl ?_); refine rg_nil ?_; show HW _ _ _ _ _; refine hw_ret ?_; refine ⟨.inr rfl, ?_⟩
  exact ⟨_, _, _, _, rfl, (by (repeat' apply And.intro) <;> first | trivial | exact Nat.le_of_ble_eq_true rfl | rfl), rfl, (by (repeat' apply And.intro) <;> first | trivial | exact Nat.le_of_ble_eq_true rfl | rfl), CoL.refl _⟩
theorem good68 : goodFn Tryz.prog 68 := ⟨Tryz.f68, Tryz.func68, by kernel_rfl, by kernel_rfl⟩
theorem c68 (t : Tbl) (id : Int) : HPure Tryz.prog 68 [t.pc, pI id] (prOf [pI (max (rowIx t.rows id) 0), pB (decide (0 ≤ rowIx t.rows id))]) := by
  refine hpure_of (nt := 15) Tryzok Tryz.func68 rfl rfl (Nat.le_of_ble_eq_true rfl) ?_; refine hw_seq ?_; refine hw_region (E := TryzE) Tryzok ?_; refine rm 0 rfl rfl rfl rfl rfl rfl ?_; refine rm 1 rfl rfl rfl rfl rfl rfl ?_
  (iterate 2 refine rq rfl rfl rfl rfl rfl ?_); refine rg_nil ?_; show HW _ _ _ _ _; refine hw_seq ?_; refine hw_freeze_box 3 rfl rfl rfl ?_; refine hw_region (E := TryzE) Tryzok ?_; (iterate 3 refine rq rfl rfl rfl rfl rfl ?_)
  refine rc rfl rfl rfl rfl rfl rfl good91 (c91 t.rows 92 1 (fun j => [vpL [PV.raw (.int .i64 id)]].getD j .any) (fun r => decide (r.id = id)) good92 (fun i _ => c92 _ _)) (CoL.refl _) rfl rfl ?_; refine rq rfl rfl rfl rfl rfl ?_
  refine rg_nil ?_; show HW _ _ _ _ _; refine hw_seq ?_; refine hw_region (E := TryzE) Tryzok ?_; (iterate 6 refine rq rfl rfl rfl rfl rfl ?_); refine rg_nil ?_; show HW _ _ _ _ _; refine hw_ret ?_; refine ⟨.inr rfl, ?_⟩
  exact ⟨_, _, _, _, rfl, (by (repeat' apply And.intro) <;> first | trivial | exact Nat.le_of_ble_eq_true rfl | rfl), rfl, (by (repeat' apply And.intro) <;> first | trivial | exact Nat.le_of_ble_eq_true rfl | rfl), ⟨cci (by show (if idx _ _ < 0 then _ else _) = _; unfold rowIx; split <;> omega), CoC.refl _, trivial⟩⟩
theorem good90 : goodFn Tryz.prog 90 := ⟨Tryz.f90, Tryz.func90, by kernel_rfl, by kernel_rfl⟩
theorem c90 (t : Tbl) (s : ByteArray) : HPure Tryz.prog 90 [t.pc, pP (vpL [.raw (.string s)])] (prOf [pB (decide (t.name = s))]) := by
  refine hpure_of (nt := 8) Tryzok Tryz.func90 rfl rfl (Nat.le_of_ble_eq_true rfl) ?_; refine hw_seq ?_; refine hw_region (E := TryzE) Tryzok ?_; refine rm 0 rfl rfl rfl rfl rfl rfl ?_; refine rq rfl rfl rfl rfl rfl ?_
  refine rg_nil ?_; show HW _ _ _ _ _; refine hw_seq ?_; refine hw_region (E := TryzE) Tryzok ?_; (iterate 5 refine rq rfl rfl rfl rfl rfl ?_); refine rg_nil ?_; show HW _ _ _ _ _; refine hw_ret ?_; refine ⟨.inr rfl, ?_⟩
  exact ⟨_, _, _, _, rfl, (by (repeat' apply And.intro) <;> first | trivial | exact Nat.le_of_ble_eq_true rfl | rfl), rfl, (by (repeat' apply And.intro) <;> first | trivial | exact Nat.le_of_ble_eq_true rfl | rfl), CoL.refl _⟩
theorem good67 : goodFn Tryz.prog 67 := ⟨Tryz.f67, Tryz.func67, by kernel_rfl, by kernel_rfl⟩
theorem c67 (d : DB) (s : ByteArray) : HPure Tryz.prog 67 [dbpc d, pS s] (prOf [pI (tblIx d s)]) := by
  refine hpure_of (nt := 9) Tryzok Tryz.func67 rfl rfl (Nat.le_of_ble_eq_true rfl) ?_; refine hw_seq ?_; refine hw_region (E := TryzE) Tryzok ?_; refine rm 0 rfl rfl rfl rfl rfl rfl ?_; refine rm 1 rfl rfl rfl rfl rfl rfl ?_
  refine rq rfl rfl rfl rfl rfl ?_; refine rg_nil ?_; show HW _ _ _ _ _; refine hw_seq ?_; refine hw_freeze_box 3 rfl rfl rfl ?_; refine hw_region (E := TryzE) Tryzok ?_; (iterate 3 refine rq rfl rfl rfl rfl rfl ?_)
  refine rc rfl rfl rfl rfl rfl rfl good89 (c89 d 90 1 (fun j => [vpL [PV.raw (.string s)]].getD j .any) (fun t => decide (t.name = s)) good90 (fun i _ => c90 _ _)) (CoL.refl _) rfl rfl ?_; refine rq rfl rfl rfl rfl rfl ?_
  refine rg_nil ?_; show HW _ _ _ _ _; refine hw_ret ?_; refine ⟨.inr rfl, ?_⟩
  exact ⟨_, _, _, _, rfl, (by (repeat' apply And.intro) <;> first | trivial | exact Nat.le_of_ble_eq_true rfl | rfl), rfl, (by (repeat' apply And.intro) <;> first | trivial | exact Nat.le_of_ble_eq_true rfl | rfl), CoL.refl _⟩
theorem good62 : goodFn Tryz.prog 62 := ⟨Tryz.f62, Tryz.func62, by kernel_rfl, by kernel_rfl⟩
theorem c62 (t : Tbl) (id : Int) : HPure Tryz.prog 62 [t.pc, pI id] (prOf [pI (max (rowIx t.rows id) 0), pB (decide (0 ≤ rowIx t.rows id))]) := by
  refine hpure_of (nt := 23) Tryzok Tryz.func62 rfl rfl (Nat.le_of_ble_eq_true rfl) ?_; refine hw_seq ?_; refine hw_region (E := TryzE) Tryzok ?_; refine rm 0 rfl rfl rfl rfl rfl rfl ?_; (iterate 2 refine rq rfl rfl rfl rfl rfl ?_)
  refine rg_nil ?_; show HW _ _ _ _ _; refine hw_joinK (ι := Unit) ⟨[], []⟩ ⟨trivial, trivial⟩ (fun _i => ⟨[], []⟩) (fun _i => rowIx t.rows id = -1) ?_ ?_
  · skip
    refine hw_seq ?_; refine hw_bo 0 2 rfl rfl (fun hn => ?_); refine hw_region (E := TryzE) Tryzok ?_; refine rq rfl rfl rfl rfl rfl ?_; refine rg_nil ?_; show HW _ _ _ _ _; refine hw_block ?_
    refine hw_loopK (ι := Nat) ⟨[(1, some _), (2, some _)], [(0, some _)]⟩ ⟨⟨⟨_, rfl, CoR.refl _⟩, ⟨_, rfl, CoR.refl _⟩, trivial⟩, ⟨⟨_, rfl, CoO.refl _⟩, trivial⟩⟩ (fun i => ⟨[(6, some (vI i))], []⟩) (fun i => i ≤ t.rows.length ∧ ∀ j, j < i → decide ((t.rows.getD j default).id = id) = false) (fun i => t.rows.length - i) (0) (⟨Nat.zero_le _, all_zero⟩) ⟨⟨⟨_, rfl, (by first | exact CoR.refl _ | exact coi (by omega) | exact cob (by simp_all))⟩, trivial⟩, trivial⟩ ?_
    rintro i ⟨hi, hI⟩
    (iterate 2 refine hw_seq ?_); refine hw_region (E := TryzE) Tryzok ?_; (iterate 5 refine rq rfl rfl rfl rfl rfl ?_); refine rg_nil ?_; show HW _ _ _ _ _; refine hw_cond _ rfl (fun r0 => ?_) (fun r0 => ?_)
    · skip
      have h0 := r0
      have h0 := of_decide_eq_true h0
      try simp only [Int.toNat_natCast] at h0
      refine hw_skip ?_; show HW _ _ _ _ _; refine hw_seq ?_; refine hw_block ?_; refine hw_seq ?_; refine hw_region (E := TryzE) Tryzok ?_; (iterate 8 refine rq rfl rfl rfl rfl rfl ?_); refine rg_nil ?_; show HW _ _ _ _ _
      refine hw_cond _ rfl (fun r1 => ?_) (fun r1 => ?_)
      · skip
        have h1 := r1
        have h1 := of_decide_eq_true h1
        try simp only [Int.toNat_natCast] at h1
        refine hw_seq ?_; refine hw_region (E := TryzE) Tryzok ?_; (iterate 3 refine rq rfl rfl rfl rfl rfl ?_); refine rg_nil ?_; show HW _ _ _ _ _; refine hw_ret ?_; refine ⟨.inr rfl, ?_⟩
        have hx : rowIx t.rows id = i := idx_t (p := fun r : Row => decide (r.id = id)) (i := i) (by omega) hI (decide_eq_true h1)
        exact ⟨_, _, _, _, rfl, (by (repeat' apply And.intro) <;> first | trivial | exact Nat.le_of_ble_eq_true rfl | rfl), rfl, (by (repeat' apply And.intro) <;> first | trivial | exact Nat.le_of_ble_eq_true rfl | rfl), ⟨cci (by omega), ccb (by simp [hx]), trivial⟩⟩
      · skip
        have h1 := r1
        have h1 := of_decide_eq_false h1
        try simp only [Int.toNat_natCast] at h1
        refine hw_skip ?_; show HW _ _ _ _ _; refine hw_region (E := TryzE) Tryzok ?_; (iterate 3 refine rq rfl rfl rfl rfl rfl ?_); refine rg_nil ?_; refine ⟨i + 1, ?_, ?_, ?_⟩
        · exact ⟨by omega, all_succ hI (decide_eq_false h1)⟩
        · first | omega | (dsimp only; omega)
        · exact ⟨⟨⟨_, rfl, (by first | exact CoR.refl _ | exact coi (by omega) | exact cob (by simp_all))⟩, ⟨_, rfl, CoR.refl _⟩, ⟨_, rfl, CoR.refl _⟩, trivial⟩, ⟨⟨_, rfl, CoO.refl _⟩, trivial⟩⟩
    · skip
      have h0 := r0
      have h0 := of_decide_eq_false h0
      try simp only [Int.toNat_natCast] at h0
      refine hw_exit ?_; refine ⟨(), ?_, ?_⟩
      · exact idx_f (p := fun r : Row => decide (r.id = id)) fun j hj => hI j (by omega)
      · exact ⟨trivial, trivial⟩
  · rintro _ hj
    refine hw_seq ?_; refine hw_region (E := TryzE) Tryzok ?_; (iterate 2 refine rq rfl rfl rfl rfl rfl ?_); refine rg_nil ?_; show HW _ _ _ _ _; refine hw_ret ?_; refine ⟨.inr rfl, ?_⟩
    exact ⟨_, _, _, _, rfl, (by (repeat' apply And.intro) <;> first | trivial | exact Nat.le_of_ble_eq_true rfl | rfl), rfl, (by (repeat' apply And.intro) <;> first | trivial | exact Nat.le_of_ble_eq_true rfl | rfl), ⟨cci (by omega), ccb (by simp [hj]), trivial⟩⟩
theorem good60 : goodFn Tryz.prog 60 := ⟨Tryz.f60, Tryz.func60, by kernel_rfl, by kernel_rfl⟩
theorem c60 (d : DB) (s : ByteArray) : HPure Tryz.prog 60 [dbpc d, pS s] (prOf [pI (tblIx d s)]) := by
  refine hpure_of (nt := 22) Tryzok Tryz.func60 rfl rfl (Nat.le_of_ble_eq_true rfl) ?_; refine hw_seq ?_; refine hw_region (E := TryzE) Tryzok ?_; refine rm 0 rfl rfl rfl rfl rfl rfl ?_; refine rq rfl rfl rfl rfl rfl ?_
  refine rg_nil ?_; show HW _ _ _ _ _; refine hw_joinK (ι := Unit) ⟨[], []⟩ ⟨trivial, trivial⟩ (fun _i => ⟨[], []⟩) (fun _i => tblIx d s = -1) ?_ ?_
  · skip
    refine hw_seq ?_; refine hw_bo 0 0 rfl rfl (fun hn => ?_); refine hw_region (E := TryzE) Tryzok ?_; refine rq rfl rfl rfl rfl rfl ?_; refine rg_nil ?_; show HW _ _ _ _ _; refine hw_block ?_
    refine hw_loopK (ι := Nat) ⟨[(1, some _), (2, some _)], [(0, some _)]⟩ ⟨⟨⟨_, rfl, CoR.refl _⟩, ⟨_, rfl, CoR.refl _⟩, trivial⟩, ⟨⟨_, rfl, CoO.refl _⟩, trivial⟩⟩ (fun i => ⟨[(5, some (vI i))], []⟩) (fun i => i ≤ d.length ∧ ∀ j, j < i → decide ((d.getD j default).name = s) = false) (fun i => d.length - i) (0) (⟨Nat.zero_le _, all_zero⟩) ⟨⟨⟨_, rfl, (by first | exact CoR.refl _ | exact coi (by omega) | exact cob (by simp_all))⟩, trivial⟩, trivial⟩ ?_
    rintro i ⟨hi, hI⟩
    (iterate 2 refine hw_seq ?_); refine hw_region (E := TryzE) Tryzok ?_; (iterate 5 refine rq rfl rfl rfl rfl rfl ?_); refine rg_nil ?_; show HW _ _ _ _ _; refine hw_cond _ rfl (fun r0 => ?_) (fun r0 => ?_)
    · skip
      have h0 := r0
      have h0 := of_decide_eq_true h0
      try simp only [Int.toNat_natCast] at h0
      refine hw_skip ?_; show HW _ _ _ _ _; refine hw_seq ?_; refine hw_block ?_; refine hw_seq ?_; refine hw_region (E := TryzE) Tryzok ?_; (iterate 8 refine rq rfl rfl rfl rfl rfl ?_); refine rg_nil ?_; show HW _ _ _ _ _
      refine hw_cond _ rfl (fun r1 => ?_) (fun r1 => ?_)
      · skip
        have h1 := r1
        have h1 := of_decide_eq_true h1
        try simp only [Int.toNat_natCast] at h1
        refine hw_seq ?_; refine hw_region (E := TryzE) Tryzok ?_; (iterate 2 refine rq rfl rfl rfl rfl rfl ?_); refine rg_nil ?_; show HW _ _ _ _ _; refine hw_ret ?_; refine ⟨.inr rfl, ?_⟩
        exact ⟨_, _, _, _, rfl, (by (repeat' apply And.intro) <;> first | trivial | exact Nat.le_of_ble_eq_true rfl | rfl), rfl, (by (repeat' apply And.intro) <;> first | trivial | exact Nat.le_of_ble_eq_true rfl | rfl), ⟨cci (idx_t (p := fun t : Tbl => decide (t.name = s)) (i := i) (by omega) hI (decide_eq_true h1)).symm, trivial⟩⟩
      · skip
        have h1 := r1
        have h1 := of_decide_eq_false h1
        try simp only [Int.toNat_natCast] at h1
        refine hw_skip ?_; show HW _ _ _ _ _; refine hw_region (E := TryzE) Tryzok ?_; (iterate 3 refine rq rfl rfl rfl rfl rfl ?_); refine rg_nil ?_; refine ⟨i + 1, ?_, ?_, ?_⟩
        · exact ⟨by omega, all_succ hI (decide_eq_false h1)⟩
        · first | omega | (dsimp only; omega)
        · exact ⟨⟨⟨_, rfl, (by first | exact CoR.refl _ | exact coi (by omega) | exact cob (by simp_all))⟩, ⟨_, rfl, CoR.refl _⟩, ⟨_, rfl, CoR.refl _⟩, trivial⟩, ⟨⟨_, rfl, CoO.refl _⟩, trivial⟩⟩
    · skip
      have h0 := r0
      have h0 := of_decide_eq_false h0
      try simp only [Int.toNat_natCast] at h0
      refine hw_exit ?_; refine ⟨(), ?_, ?_⟩
      · exact idx_f (p := fun t : Tbl => decide (t.name = s)) fun j hj => hI j (by omega)
      · exact ⟨trivial, trivial⟩
  · rintro _ hj
    refine hw_seq ?_; refine hw_region (E := TryzE) Tryzok ?_; refine rq rfl rfl rfl rfl rfl ?_; refine rg_nil ?_; show HW _ _ _ _ _; refine hw_ret ?_; refine ⟨.inr rfl, ?_⟩
    exact ⟨_, _, _, _, rfl, (by (repeat' apply And.intro) <;> first | trivial | exact Nat.le_of_ble_eq_true rfl | rfl), rfl, (by (repeat' apply And.intro) <;> first | trivial | exact Nat.le_of_ble_eq_true rfl | rfl), ⟨cci hj.symm, trivial⟩⟩
theorem good82 : goodFn Tryz.prog 82 := ⟨Tryz.f82, Tryz.func82, by kernel_rfl, by kernel_rfl⟩
theorem c82 (t : Tbl) : HPure Tryz.prog 82 [t.pc] (prOf [pI (tblErr t)]) := by
  refine hpure_of (nt := 53) Tryzok Tryz.func82 rfl rfl (Nat.le_of_ble_eq_true rfl) ?_; refine hw_seq ?_; refine hw_region (E := TryzE) Tryzok ?_; refine rm 0 rfl rfl rfl rfl rfl rfl ?_; refine rq rfl rfl rfl rfl rfl ?_
  refine rg_nil ?_; show HW _ _ _ _ _; (iterate 2 refine hw_seq ?_); refine hw_region (E := TryzE) Tryzok ?_; (iterate 2 refine rq rfl rfl rfl rfl rfl ?_); refine rc rfl rfl rfl rfl rfl rfl good102 (c102 _) (CoL.refl _) rfl rfl ?_
  refine rq rfl rfl rfl rfl rfl ?_; refine rg_nil ?_; show HW _ _ _ _ _; refine hw_cond _ rfl (fun r0 => ?_) (fun r0 => ?_)
  · skip
    have h0 := r0
    have h0 := not_t h0
    refine hw_seq ?_; refine hw_region (E := TryzE) Tryzok ?_; refine rq rfl rfl rfl rfl rfl ?_; refine rg_nil ?_; show HW _ _ _ _ _; refine hw_ret ?_; refine ⟨.inr rfl, ?_⟩
    exact ⟨_, _, _, _, rfl, (by (repeat' apply And.intro) <;> first | trivial | exact Nat.le_of_ble_eq_true rfl | rfl), rfl, (by (repeat' apply And.intro) <;> first | trivial | exact Nat.le_of_ble_eq_true rfl | rfl), ⟨cci (tE1 (by assumption)).symm, trivial⟩⟩
  · skip
    have h0 := r0
    have h0 := not_f h0
    refine hw_skip ?_; show HW _ _ _ _ _; (iterate 2 refine hw_seq ?_); refine hw_region (E := TryzE) Tryzok ?_; (iterate 5 refine rq rfl rfl rfl rfl rfl ?_); refine rsplit rfl rfl (fun r1 => ?_) (fun r1 => ?_)
    · skip
      have h1 := r1
      have h1 := of_decide_eq_true h1
      try simp only [Int.toNat_natCast] at h1
      (iterate 4 refine rk rfl rfl rfl (gtf r1) ?_); refine rq rfl rfl rfl rfl rfl ?_ (hp := r1); refine rg_nil ?_; show HW _ _ _ _ _; refine hw_cond _ rfl (fun _ => ?_) (fun e => by cases e); refine hw_seq ?_
      refine hw_region (E := TryzE) Tryzok ?_; refine rq rfl rfl rfl rfl rfl ?_; refine rg_nil ?_; show HW _ _ _ _ _; refine hw_ret ?_; refine ⟨.inr rfl, ?_⟩
      exact ⟨_, _, _, _, rfl, (by (repeat' apply And.intro) <;> first | trivial | exact Nat.le_of_ble_eq_true rfl | rfl), rfl, (by (repeat' apply And.intro) <;> first | trivial | exact Nat.le_of_ble_eq_true rfl | rfl), ⟨cci (tE3 (by assumption) (by omega)).symm, trivial⟩⟩
    · skip
      have h1 := r1
      have h1 := of_decide_eq_false h1
      try simp only [Int.toNat_natCast] at h1
      (iterate 4 refine rq rfl rfl rfl rfl (gff r1) ?_); refine rq rfl rfl rfl rfl rfl ?_; refine rg_nil ?_; show HW _ _ _ _ _; refine hw_cond _ rfl (fun r2 => ?_) (fun r2 => ?_)
      · skip
        have h2 := r2
        have h2 := bif_f r1 h2
        have h2 := of_decide_eq_true h2
        try simp only [Int.toNat_natCast] at h2
        refine hw_seq ?_; refine hw_region (E := TryzE) Tryzok ?_; refine rq rfl rfl rfl rfl rfl ?_; refine rg_nil ?_; show HW _ _ _ _ _; refine hw_ret ?_; refine ⟨.inr rfl, ?_⟩
        exact ⟨_, _, _, _, rfl, (by (repeat' apply And.intro) <;> first | trivial | exact Nat.le_of_ble_eq_true rfl | rfl), rfl, (by (repeat' apply And.intro) <;> first | trivial | exact Nat.le_of_ble_eq_true rfl | rfl), ⟨cci (tE3 (by assumption) (by omega)).symm, trivial⟩⟩
      · skip
        have h2 := r2
        have h2 := bif_f r1 h2
        have h2 := of_decide_eq_false h2
        try simp only [Int.toNat_natCast] at h2
        refine hw_skip ?_; show HW _ _ _ _ _; (iterate 2 refine hw_seq ?_); refine hw_region (E := TryzE) Tryzok ?_; (iterate 2 refine rq rfl rfl rfl rfl rfl ?_)
        refine rc rfl rfl rfl rfl rfl rfl good103 (c103 _) (CoL.refl _) rfl rfl ?_; refine rq rfl rfl rfl rfl rfl ?_; refine rg_nil ?_; show HW _ _ _ _ _; refine hw_cond _ rfl (fun r3 => ?_) (fun r3 => ?_)
        · skip
          have h3 := r3
          have h3 := not_t h3
          refine hw_seq ?_; refine hw_region (E := TryzE) Tryzok ?_; refine rq rfl rfl rfl rfl rfl ?_; refine rg_nil ?_; show HW _ _ _ _ _; refine hw_ret ?_; refine ⟨.inr rfl, ?_⟩
          exact ⟨_, _, _, _, rfl, (by (repeat' apply And.intro) <;> first | trivial | exact Nat.le_of_ble_eq_true rfl | rfl), rfl, (by (repeat' apply And.intro) <;> first | trivial | exact Nat.le_of_ble_eq_true rfl | rfl), ⟨cci (tE2 (by assumption) (by omega) (by omega) (by assumption)).symm, trivial⟩⟩
        · skip
          have h3 := r3
          have h3 := not_f h3
          refine hw_skip ?_; show HW _ _ _ _ _; refine hw_seq ?_; refine hw_region (E := TryzE) Tryzok ?_; refine rq rfl rfl rfl rfl rfl ?_; refine rg_nil ?_; show HW _ _ _ _ _
          refine hw_joinK (ι := Unit) ⟨[], []⟩ ⟨trivial, trivial⟩ (fun _i => ⟨[], []⟩) (fun _i => rowsErr t.attrs.length 0 t.rows = 0) ?_ ?_
          · skip
            refine hw_seq ?_; refine hw_region (E := TryzE) Tryzok ?_; refine rq rfl rfl rfl rfl rfl ?_; refine rg_nil ?_; show HW _ _ _ _ _; refine hw_block ?_
            refine hw_loopK (ι := (Nat × Int)) ⟨[(1, some _)], [(0, some _)]⟩ ⟨⟨⟨_, rfl, CoR.refl _⟩, trivial⟩, ⟨⟨_, rfl, CoO.refl _⟩, trivial⟩⟩ (fun x => ⟨[(3, some (vI x.2)), (4, some (vI x.1))], []⟩) (fun x => x.1 ≤ t.rows.length ∧ rowsErr t.attrs.length x.2 (t.rows.drop x.1) = rowsErr t.attrs.length 0 t.rows) (fun x => t.rows.length - x.1) ((0, 0)) (⟨Nat.zero_le _, rfl⟩) ⟨⟨⟨_, rfl, (by first | exact CoR.refl _ | exact coi (by omega) | exact cob (by simp_all))⟩, ⟨_, rfl, (by first | exact CoR.refl _ | exact coi (by omega) | exact cob (by simp_all))⟩, trivial⟩, trivial⟩ ?_
            rintro ⟨i, b⟩ ⟨hi, hI⟩
            dsimp only at hi hI ⊢
            (iterate 2 refine hw_seq ?_); refine hw_region (E := TryzE) Tryzok ?_; (iterate 5 refine rq rfl rfl rfl rfl rfl ?_); refine rg_nil ?_; show HW _ _ _ _ _; refine hw_cond _ rfl (fun r4 => ?_) (fun r4 => ?_)
            · skip
              have h4 := r4
              have h4 := of_decide_eq_true h4
              try simp only [Int.toNat_natCast] at h4
              refine hw_skip ?_; show HW _ _ _ _ _; refine hw_seq ?_; refine hw_block ?_; refine hw_seq ?_; refine hw_region (E := TryzE) Tryzok ?_; (iterate 5 refine rq rfl rfl rfl rfl rfl ?_)
              refine rm 1 rfl rfl rfl rfl rfl rfl ?_; refine rs rfl rfl rfl rfl rfl ?_; refine rg_nil ?_; show HW _ _ _ _ _; (iterate 2 refine hw_seq ?_); refine hw_region (E := TryzE) Tryzok ?_
              (iterate 4 refine rq rfl rfl rfl rfl rfl ?_); refine rg_nil ?_; show HW _ _ _ _ _; refine hw_cond _ rfl (fun r5 => ?_) (fun r5 => ?_)
              · skip
                have h5 := r5
                have h5 := of_decide_eq_true h5
                try simp only [Int.toNat_natCast] at h5
                refine hw_seq ?_; refine hw_region (E := TryzE) Tryzok ?_; refine rq rfl rfl rfl rfl rfl ?_; refine rg_nil ?_; show HW _ _ _ _ _; refine hw_ret ?_; refine ⟨.inr rfl, ?_⟩
                have hs := rE (by omega) hI
                rw [if_pos (by omega)] at hs
                exact ⟨_, _, _, _, rfl, (by (repeat' apply And.intro) <;> first | trivial | exact Nat.le_of_ble_eq_true rfl | rfl), rfl, (by (repeat' apply And.intro) <;> first | trivial | exact Nat.le_of_ble_eq_true rfl | rfl), ⟨cci (tE (by assumption) (by omega) (by omega) (by assumption) hs.symm).symm, trivial⟩⟩
              · skip
                have h5 := r5
                have h5 := of_decide_eq_false h5
                try simp only [Int.toNat_natCast] at h5
                refine hw_skip ?_; show HW _ _ _ _ _; refine hw_seq ?_; refine hw_region (E := TryzE) Tryzok ?_; (iterate 3 refine rq rfl rfl rfl rfl rfl ?_); refine rg_nil ?_; show HW _ _ _ _ _; (iterate 2 refine hw_seq ?_)
                refine hw_region (E := TryzE) Tryzok ?_; (iterate 7 refine rq rfl rfl rfl rfl rfl ?_); refine rg_nil ?_; show HW _ _ _ _ _; refine hw_cond _ rfl (fun r6 => ?_) (fun r6 => ?_)
                · skip
                  have h6 := r6
                  have h6 := of_decide_eq_false (not_t h6)
                  try simp only [Int.toNat_natCast] at h6
                  refine hw_seq ?_; refine hw_region (E := TryzE) Tryzok ?_; refine rq rfl rfl rfl rfl rfl ?_; refine rg_nil ?_; show HW _ _ _ _ _; refine hw_ret ?_; refine ⟨.inr rfl, ?_⟩
                  have hs := rE (by omega) hI
                  rw [if_neg (by omega), if_pos (by omega)] at hs
                  exact ⟨_, _, _, _, rfl, (by (repeat' apply And.intro) <;> first | trivial | exact Nat.le_of_ble_eq_true rfl | rfl), rfl, (by (repeat' apply And.intro) <;> first | trivial | exact Nat.le_of_ble_eq_true rfl | rfl), ⟨cci (tE (by assumption) (by omega) (by omega) (by assumption) hs.symm).symm, trivial⟩⟩
                · skip
                  have h6 := r6
                  have h6 := of_decide_eq_true (not_f h6)
                  try simp only [Int.toNat_natCast] at h6
                  refine hw_skip ?_; show HW _ _ _ _ _; refine hw_seq ?_; refine hw_region (E := TryzE) Tryzok ?_; (iterate 2 refine rq rfl rfl rfl rfl rfl ?_)
                  refine rc rfl rfl rfl rfl rfl rfl good83 (c83 _) (CoL.refl _) rfl rfl ?_; refine rq rfl rfl rfl rfl rfl ?_; refine rg_nil ?_; show HW _ _ _ _ _; refine hw_cond _ rfl (fun r7 => ?_) (fun r7 => ?_)
                  · skip
                    have h7 := r7
                    have h7 := not_t h7
                    refine hw_seq ?_; refine hw_region (E := TryzE) Tryzok ?_; refine rq rfl rfl rfl rfl rfl ?_; refine rg_nil ?_; show HW _ _ _ _ _; refine hw_ret ?_; refine ⟨.inr rfl, ?_⟩
                    have hs := rE (by omega) hI
                    rw [if_neg (by omega), if_neg (by omega), if_pos (by assumption)] at hs
                    exact ⟨_, _, _, _, rfl, (by (repeat' apply And.intro) <;> first | trivial | exact Nat.le_of_ble_eq_true rfl | rfl), rfl, (by (repeat' apply And.intro) <;> first | trivial | exact Nat.le_of_ble_eq_true rfl | rfl), ⟨cci (tE (by assumption) (by omega) (by omega) (by assumption) hs.symm).symm, trivial⟩⟩
                  · skip
                    have h7 := r7
                    have h7 := not_f h7
                    refine hw_skip ?_; show HW _ _ _ _ _; refine hw_region (E := TryzE) Tryzok ?_; (iterate 3 refine rq rfl rfl rfl rfl rfl ?_); refine rg_nil ?_; refine ⟨(i + 1, (t.rows.getD i default).id), ?_, ?_, ?_⟩
                    · refine ⟨by dsimp only; omega, ?_⟩
                      have hs := rE (by omega) hI
                      rw [if_neg (by omega), if_neg (by omega), if_neg (fun e => Bool.noConfusion (e.symm.trans (show _ = true by assumption)))] at hs
                      exact hs
                    · first | omega | (dsimp only; omega)
                    · exact ⟨⟨⟨_, rfl, (by first | exact CoR.refl _ | exact coi (by omega) | exact cob (by simp_all))⟩, ⟨_, rfl, (by first | exact CoR.refl _ | exact coi (by omega) | exact cob (by simp_all))⟩, ⟨_, rfl, CoR.refl _⟩, trivial⟩, ⟨⟨_, rfl, CoO.refl _⟩, trivial⟩⟩
            · skip
              have h4 := r4
              have h4 := of_decide_eq_false h4
              try simp only [Int.toNat_natCast] at h4
              refine hw_exit ?_; refine ⟨(), ?_, ?_⟩
              · rw [← hI, List.drop_eq_nil_of_le (by omega)]; rfl
              · exact ⟨trivial, trivial⟩
          · rintro _ hj
            refine hw_seq ?_; refine hw_region (E := TryzE) Tryzok ?_; refine rq rfl rfl rfl rfl rfl ?_; refine rg_nil ?_; show HW _ _ _ _ _; refine hw_ret ?_; refine ⟨.inr rfl, ?_⟩
            exact ⟨_, _, _, _, rfl, (by (repeat' apply And.intro) <;> first | trivial | exact Nat.le_of_ble_eq_true rfl | rfl), rfl, (by (repeat' apply And.intro) <;> first | trivial | exact Nat.le_of_ble_eq_true rfl | rfl), ⟨cci (tE (by assumption) (by omega) (by omega) (by assumption) hj).symm, trivial⟩⟩
theorem good88 : goodFn Tryz.prog 88 := ⟨Tryz.f88, Tryz.func88, by kernel_rfl, by kernel_rfl⟩
theorem c88 (t : Tbl) : HPure Tryz.prog 88 [t.pc] (prOf [pI (tblErr t)]) := by
  refine hpure_of (nt := 70) Tryzok Tryz.func88 rfl rfl (Nat.le_of_ble_eq_true rfl) ?_; refine hw_seq ?_; refine hw_region (E := TryzE) Tryzok ?_; refine rm 0 rfl rfl rfl rfl rfl rfl ?_; refine rq rfl rfl rfl rfl rfl ?_
  refine rg_nil ?_; show HW _ _ _ _ _; (iterate 2 refine hw_seq ?_); refine hw_region (E := TryzE) Tryzok ?_; (iterate 2 refine rq rfl rfl rfl rfl rfl ?_); refine rc rfl rfl rfl rfl rfl rfl good104 (c104 _) (CoL.refl _) rfl rfl ?_
  refine rq rfl rfl rfl rfl rfl ?_; refine rg_nil ?_; show HW _ _ _ _ _; refine hw_cond _ rfl (fun r0 => ?_) (fun r0 => ?_)
  · skip
    have h0 := r0
    have h0 := not_t h0
    refine hw_seq ?_; refine hw_region (E := TryzE) Tryzok ?_; refine rq rfl rfl rfl rfl rfl ?_; refine rg_nil ?_; show HW _ _ _ _ _; refine hw_ret ?_; refine ⟨.inr rfl, ?_⟩
    exact ⟨_, _, _, _, rfl, (by (repeat' apply And.intro) <;> first | trivial | exact Nat.le_of_ble_eq_true rfl | rfl), rfl, (by (repeat' apply And.intro) <;> first | trivial | exact Nat.le_of_ble_eq_true rfl | rfl), ⟨cci (tE1 (by assumption)).symm, trivial⟩⟩
  · skip
    have h0 := r0
    have h0 := not_f h0
    refine hw_skip ?_; show HW _ _ _ _ _; (iterate 2 refine hw_seq ?_); refine hw_region (E := TryzE) Tryzok ?_; (iterate 5 refine rq rfl rfl rfl rfl rfl ?_); refine rsplit rfl rfl (fun r1 => ?_) (fun r1 => ?_)
    · skip
      have h1 := r1
      have h1 := of_decide_eq_true h1
      try simp only [Int.toNat_natCast] at h1
      (iterate 4 refine rk rfl rfl rfl (gtf r1) ?_); refine rq rfl rfl rfl rfl rfl ?_ (hp := r1); refine rg_nil ?_; show HW _ _ _ _ _; refine hw_cond _ rfl (fun _ => ?_) (fun e => by cases e); refine hw_seq ?_
      refine hw_region (E := TryzE) Tryzok ?_; refine rq rfl rfl rfl rfl rfl ?_; refine rg_nil ?_; show HW _ _ _ _ _; refine hw_ret ?_; refine ⟨.inr rfl, ?_⟩
      exact ⟨_, _, _, _, rfl, (by (repeat' apply And.intro) <;> first | trivial | exact Nat.le_of_ble_eq_true rfl | rfl), rfl, (by (repeat' apply And.intro) <;> first | trivial | exact Nat.le_of_ble_eq_true rfl | rfl), ⟨cci (tE3 (by assumption) (by omega)).symm, trivial⟩⟩
    · skip
      have h1 := r1
      have h1 := of_decide_eq_false h1
      try simp only [Int.toNat_natCast] at h1
      (iterate 4 refine rq rfl rfl rfl rfl (gff r1) ?_); refine rq rfl rfl rfl rfl rfl ?_; refine rg_nil ?_; show HW _ _ _ _ _; refine hw_cond _ rfl (fun r2 => ?_) (fun r2 => ?_)
      · skip
        have h2 := r2
        have h2 := bif_f r1 h2
        have h2 := of_decide_eq_true h2
        try simp only [Int.toNat_natCast] at h2
        refine hw_seq ?_; refine hw_region (E := TryzE) Tryzok ?_; refine rq rfl rfl rfl rfl rfl ?_; refine rg_nil ?_; show HW _ _ _ _ _; refine hw_ret ?_; refine ⟨.inr rfl, ?_⟩
        exact ⟨_, _, _, _, rfl, (by (repeat' apply And.intro) <;> first | trivial | exact Nat.le_of_ble_eq_true rfl | rfl), rfl, (by (repeat' apply And.intro) <;> first | trivial | exact Nat.le_of_ble_eq_true rfl | rfl), ⟨cci (tE3 (by assumption) (by omega)).symm, trivial⟩⟩
      · skip
        have h2 := r2
        have h2 := bif_f r1 h2
        have h2 := of_decide_eq_false h2
        try simp only [Int.toNat_natCast] at h2
        refine hw_skip ?_; show HW _ _ _ _ _; refine hw_joinK (ι := Unit) ⟨[(1, some _)], [(0, some _)]⟩ ⟨⟨⟨_, rfl, CoR.refl _⟩, trivial⟩, ⟨⟨_, rfl, CoO.refl _⟩, trivial⟩⟩ (fun _i => ⟨[], []⟩) (fun _i => nmsOk t.attrs = true) ?_ ?_
        · skip
          refine hw_seq ?_; refine hw_region (E := TryzE) Tryzok ?_; (iterate 4 refine rq rfl rfl rfl rfl rfl ?_); refine rg_nil ?_; show HW _ _ _ _ _; refine hw_block ?_
          refine hw_loopK (ι := Nat) ⟨[(1, some _), (23, some _), (24, some _)], [(0, some _)]⟩ ⟨⟨⟨_, rfl, CoR.refl _⟩, ⟨_, rfl, CoR.refl _⟩, ⟨_, rfl, CoR.refl _⟩, trivial⟩, ⟨⟨_, rfl, CoO.refl _⟩, trivial⟩⟩ (fun i => ⟨[(25, some (vI i))], []⟩) (fun i => i ≤ t.attrs.length ∧ ∀ j, j < i → nmsAt t.attrs j = true) (fun i => t.attrs.length - i) (0) (⟨Nat.zero_le _, all_zero⟩) ⟨⟨⟨_, rfl, (by first | exact CoR.refl _ | exact coi (by omega) | exact cob (by simp_all))⟩, trivial⟩, trivial⟩ ?_
          rintro i ⟨hi, hI⟩
          refine hw_seq ?_; refine hw_region (E := TryzE) Tryzok ?_; refine rq rfl rfl rfl rfl rfl ?_; refine rg_nil ?_; show HW _ _ _ _ _; refine hw_seq ?_; refine hw_cond _ rfl (fun r3 => ?_) (fun r3 => ?_)
          · skip
            have h3 := r3
            have h3 := of_decide_eq_true h3
            try simp only [Int.toNat_natCast] at h3
            refine hw_skip ?_; show HW _ _ _ _ _; refine hw_seq ?_; refine hw_block ?_; refine hw_seq ?_; refine hw_region (E := TryzE) Tryzok ?_; (iterate 5 refine rq rfl rfl rfl rfl rfl ?_); refine rg_nil ?_; show HW _ _ _ _ _
            refine hw_seq ?_; refine hw_region (E := TryzE) Tryzok ?_; refine rq rfl rfl rfl rfl rfl ?_; refine rc rfl rfl rfl rfl rfl rfl good104 (c104 _) (CoL.refl _) rfl rfl ?_; (iterate 2 refine rq rfl rfl rfl rfl rfl ?_)
            refine rsplit rfl rfl (fun r4 => ?_) (fun r4 => ?_)
            · skip
              have h4 := r4
              have h4 := not_t h4
              (iterate 6 refine rk rfl rfl rfl (gtf r4) ?_); refine rq rfl rfl rfl rfl rfl ?_ (hp := r4); refine rg_nil ?_; show HW _ _ _ _ _; refine hw_cond _ rfl (fun _ => ?_) (fun e => by cases e); refine hw_seq ?_
              refine hw_region (E := TryzE) Tryzok ?_; refine rq rfl rfl rfl rfl rfl ?_; refine rg_nil ?_; show HW _ _ _ _ _; refine hw_ret ?_; refine ⟨.inr rfl, ?_⟩
              exact ⟨_, _, _, _, rfl, (by (repeat' apply And.intro) <;> first | trivial | exact Nat.le_of_ble_eq_true rfl | rfl), rfl, (by (repeat' apply And.intro) <;> first | trivial | exact Nat.le_of_ble_eq_true rfl | rfl), ⟨cci (tE2 (by assumption) (by omega) (by omega) (range_all_f (i := i) (by omega) (by first | (unfold nmsAt; simp_all; done) | (unfold nmsAt; rw [Bool.and_eq_false_iff]; right; exact decide_eq_false (by omega))))).symm, trivial⟩⟩
            · skip
              have h4 := r4
              have h4 := not_f h4
              (iterate 5 refine rq rfl rfl rfl rfl (gff r4) ?_)
              refine rc rfl rfl rfl rfl rfl rfl good105 (c105 (t.attrs.take i) (t.attrs.getD i default)) (⟨CoC.one (co_take (k := i) (by omega)), CoC.refl _, trivial⟩) rfl (gff r4) ?_; refine rq rfl rfl rfl rfl rfl ?_
              refine rg_nil ?_; show HW _ _ _ _ _; refine hw_cond _ rfl (fun r5 => ?_) (fun r5 => ?_)
              · skip
                have h5 := r5
                have h5 := bif_f r4 h5
                refine hw_seq ?_; refine hw_region (E := TryzE) Tryzok ?_; refine rq rfl rfl rfl rfl rfl ?_; refine rg_nil ?_; show HW _ _ _ _ _; refine hw_ret ?_; refine ⟨.inr rfl, ?_⟩
                exact ⟨_, _, _, _, rfl, (by (repeat' apply And.intro) <;> first | trivial | exact Nat.le_of_ble_eq_true rfl | rfl), rfl, (by (repeat' apply And.intro) <;> first | trivial | exact Nat.le_of_ble_eq_true rfl | rfl), ⟨cci (tE2 (by assumption) (by omega) (by omega) (range_all_f (i := i) (by omega) (by first | (unfold nmsAt; simp_all; done) | (unfold nmsAt; rw [Bool.and_eq_false_iff]; right; exact decide_eq_false (by omega))))).symm, trivial⟩⟩
              · skip
                have h5 := r5
                have h5 := bif_f r4 h5
                have hM := of_decide_eq_false h5
                refine hw_skip ?_; show HW _ _ _ _ _; refine hw_region (E := TryzE) Tryzok ?_; (iterate 2 refine rq rfl rfl rfl rfl rfl ?_); refine rg_nil ?_; refine ⟨i + 1, ?_, ?_, ?_⟩
                · exact ⟨by omega, all_succ hI (by simp only [nmsAt, Bool.and_eq_true, decide_eq_true_eq]; exact ⟨by assumption, by simp_all⟩)⟩
                · first | omega | (dsimp only; omega)
                · exact ⟨⟨⟨_, rfl, (by first | exact CoR.refl _ | exact coi (by omega) | exact cob (by simp_all))⟩, ⟨_, rfl, CoR.refl _⟩, ⟨_, rfl, CoR.refl _⟩, ⟨_, rfl, CoR.refl _⟩, trivial⟩, ⟨⟨_, rfl, CoO.refl _⟩, trivial⟩⟩
          · skip
            have h3 := r3
            have h3 := of_decide_eq_false h3
            try simp only [Int.toNat_natCast] at h3
            refine hw_exit ?_; refine ⟨(), ?_, ?_⟩
            · exact range_all_t fun j hj => hI j (by omega)
            · exact ⟨⟨⟨_, rfl, CoR.refl _⟩, trivial⟩, ⟨⟨_, rfl, CoO.refl _⟩, trivial⟩⟩
        · rintro _ hnm
          refine hw_seq ?_; refine hw_region (E := TryzE) Tryzok ?_; refine rq rfl rfl rfl rfl rfl ?_; refine rg_nil ?_; show HW _ _ _ _ _
          refine hw_joinK (ι := Unit) ⟨[], []⟩ ⟨trivial, trivial⟩ (fun _i => ⟨[], []⟩) (fun _i => rowsErr t.attrs.length 0 t.rows = 0) ?_ ?_
          · skip
            refine hw_seq ?_; refine hw_region (E := TryzE) Tryzok ?_; (iterate 4 refine rq rfl rfl rfl rfl rfl ?_); refine rg_nil ?_; show HW _ _ _ _ _; refine hw_block ?_
            refine hw_loopK (ι := (Nat × Int)) ⟨[(1, some _), (43, some _), (44, some _)], [(0, some _)]⟩ ⟨⟨⟨_, rfl, CoR.refl _⟩, ⟨_, rfl, CoR.refl _⟩, ⟨_, rfl, CoR.refl _⟩, trivial⟩, ⟨⟨_, rfl, CoO.refl _⟩, trivial⟩⟩ (fun x => ⟨[(5, some (vI x.2)), (45, some (vI x.1))], []⟩) (fun x => x.1 ≤ t.rows.length ∧ rowsErr t.attrs.length x.2 (t.rows.drop x.1) = rowsErr t.attrs.length 0 t.rows) (fun x => t.rows.length - x.1) ((0, 0)) (⟨Nat.zero_le _, rfl⟩) ⟨⟨⟨_, rfl, (by first | exact CoR.refl _ | exact coi (by omega) | exact cob (by simp_all))⟩, ⟨_, rfl, (by first | exact CoR.refl _ | exact coi (by omega) | exact cob (by simp_all))⟩, trivial⟩, trivial⟩ ?_
            rintro ⟨i, b⟩ ⟨hi, hI⟩
            dsimp only at hi hI ⊢
            refine hw_seq ?_; refine hw_region (E := TryzE) Tryzok ?_; refine rq rfl rfl rfl rfl rfl ?_; refine rg_nil ?_; show HW _ _ _ _ _; refine hw_seq ?_; refine hw_cond _ rfl (fun r6 => ?_) (fun r6 => ?_)
            · skip
              have h6 := r6
              have h6 := of_decide_eq_true h6
              try simp only [Int.toNat_natCast] at h6
              refine hw_skip ?_; show HW _ _ _ _ _; refine hw_seq ?_; refine hw_block ?_; refine hw_seq ?_; refine hw_region (E := TryzE) Tryzok ?_; (iterate 2 refine rq rfl rfl rfl rfl rfl ?_)
              refine rm 1 rfl rfl rfl rfl rfl rfl ?_; refine rs rfl rfl rfl rfl rfl ?_; refine rg_nil ?_; show HW _ _ _ _ _; refine hw_seq ?_; refine hw_block ?_; refine hw_seq ?_; refine hw_region (E := TryzE) Tryzok ?_
              (iterate 5 refine rq rfl rfl rfl rfl rfl ?_); refine rg_nil ?_; show HW _ _ _ _ _; refine hw_cond _ rfl (fun r7 => ?_) (fun r7 => ?_)
              · skip
                have h7 := r7
                have h7 := of_decide_eq_true h7
                try simp only [Int.toNat_natCast] at h7
                refine hw_seq ?_; refine hw_region (E := TryzE) Tryzok ?_; refine rq rfl rfl rfl rfl rfl ?_; refine rg_nil ?_; show HW _ _ _ _ _; refine hw_ret ?_; refine ⟨.inr rfl, ?_⟩
                have hs := rE (by omega) hI
                rw [if_pos (by omega)] at hs
                exact ⟨_, _, _, _, rfl, (by (repeat' apply And.intro) <;> first | trivial | exact Nat.le_of_ble_eq_true rfl | rfl), rfl, (by (repeat' apply And.intro) <;> first | trivial | exact Nat.le_of_ble_eq_true rfl | rfl), ⟨cci (tE (by assumption) (by omega) (by omega) (by assumption) hs.symm).symm, trivial⟩⟩
              · skip
                have h7 := r7
                have h7 := of_decide_eq_false h7
                try simp only [Int.toNat_natCast] at h7
                refine hw_seq ?_; refine hw_region (E := TryzE) Tryzok ?_; (iterate 8 refine rq rfl rfl rfl rfl rfl ?_); refine rg_nil ?_; show HW _ _ _ _ _; refine hw_cond _ rfl (fun r8 => ?_) (fun r8 => ?_)
                · skip
                  have h8 := r8
                  have h8 := of_decide_eq_false (not_t h8)
                  try simp only [Int.toNat_natCast] at h8
                  refine hw_seq ?_; refine hw_region (E := TryzE) Tryzok ?_; refine rq rfl rfl rfl rfl rfl ?_; refine rg_nil ?_; show HW _ _ _ _ _; refine hw_ret ?_; refine ⟨.inr rfl, ?_⟩
                  have hs := rE (by omega) hI
                  rw [if_neg (by omega), if_pos (by omega)] at hs
                  exact ⟨_, _, _, _, rfl, (by (repeat' apply And.intro) <;> first | trivial | exact Nat.le_of_ble_eq_true rfl | rfl), rfl, (by (repeat' apply And.intro) <;> first | trivial | exact Nat.le_of_ble_eq_true rfl | rfl), ⟨cci (tE (by assumption) (by omega) (by omega) (by assumption) hs.symm).symm, trivial⟩⟩
                · skip
                  have h8 := r8
                  have h8 := of_decide_eq_true (not_f h8)
                  try simp only [Int.toNat_natCast] at h8
                  refine hw_seq ?_; refine hw_region (E := TryzE) Tryzok ?_; (iterate 2 refine rq rfl rfl rfl rfl rfl ?_); refine rc rfl rfl rfl rfl rfl rfl good93 (c93 _) (CoL.refl _) rfl rfl ?_
                  (iterate 2 refine rq rfl rfl rfl rfl rfl ?_); refine rg_nil ?_; show HW _ _ _ _ _; refine hw_cond _ rfl (fun r9 => ?_) (fun r9 => ?_)
                  · skip
                    have h9 := r9
                    have h9 := not_t h9
                    refine hw_seq ?_; refine hw_region (E := TryzE) Tryzok ?_; refine rq rfl rfl rfl rfl rfl ?_; refine rg_nil ?_; show HW _ _ _ _ _; refine hw_ret ?_; refine ⟨.inr rfl, ?_⟩
                    have hs := rE (by omega) hI
                    rw [if_neg (by omega), if_neg (by omega), if_pos (by assumption)] at hs
                    exact ⟨_, _, _, _, rfl, (by (repeat' apply And.intro) <;> first | trivial | exact Nat.le_of_ble_eq_true rfl | rfl), rfl, (by (repeat' apply And.intro) <;> first | trivial | exact Nat.le_of_ble_eq_true rfl | rfl), ⟨cci (tE (by assumption) (by omega) (by omega) (by assumption) hs.symm).symm, trivial⟩⟩
                  · skip
                    have h9 := r9
                    have h9 := not_f h9
                    refine hw_skip ?_; show HW _ _ _ _ _; refine hw_region (E := TryzE) Tryzok ?_; (iterate 3 refine rq rfl rfl rfl rfl rfl ?_); refine rg_nil ?_; show HW _ _ _ _ _; refine hw_region (E := TryzE) Tryzok ?_
                    (iterate 2 refine rq rfl rfl rfl rfl rfl ?_); refine rg_nil ?_; refine ⟨(i + 1, (t.rows.getD i default).id), ?_, ?_, ?_⟩
                    · refine ⟨by dsimp only; omega, ?_⟩
                      have hs := rE (by omega) hI
                      rw [if_neg (by omega), if_neg (by omega), if_neg (fun e => Bool.noConfusion (e.symm.trans (show _ = true by assumption)))] at hs
                      exact hs
                    · first | omega | (dsimp only; omega)
                    · exact ⟨⟨⟨_, rfl, (by first | exact CoR.refl _ | exact coi (by omega) | exact cob (by simp_all))⟩, ⟨_, rfl, (by first | exact CoR.refl _ | exact coi (by omega) | exact cob (by simp_all))⟩, ⟨_, rfl, CoR.refl _⟩, ⟨_, rfl, CoR.refl _⟩, ⟨_, rfl, CoR.refl _⟩, trivial⟩, ⟨⟨_, rfl, CoO.refl _⟩, trivial⟩⟩
            · skip
              have h6 := r6
              have h6 := of_decide_eq_false h6
              try simp only [Int.toNat_natCast] at h6
              refine hw_exit ?_; refine ⟨(), ?_, ?_⟩
              · rw [← hI, List.drop_eq_nil_of_le (by omega)]; rfl
              · exact ⟨trivial, trivial⟩
          · rintro _ hj
            refine hw_seq ?_; refine hw_region (E := TryzE) Tryzok ?_; refine rq rfl rfl rfl rfl rfl ?_; refine rg_nil ?_; show HW _ _ _ _ _; refine hw_ret ?_; refine ⟨.inr rfl, ?_⟩
            exact ⟨_, _, _, _, rfl, (by (repeat' apply And.intro) <;> first | trivial | exact Nat.le_of_ble_eq_true rfl | rfl), rfl, (by (repeat' apply And.intro) <;> first | trivial | exact Nat.le_of_ble_eq_true rfl | rfl), ⟨cci (tE (by assumption) (by omega) (by omega) (by assumption) hj).symm, trivial⟩⟩
theorem good59 : goodFn Tryz.prog 59 := ⟨Tryz.f59, Tryz.func59, by kernel_rfl, by kernel_rfl⟩
theorem c59 (d : DB) (t : Tbl) : HPure Tryz.prog 59 [dbpc d, t.pc] (prOf [pI (crErr d t)]) := by
  refine hpure_of (nt := 20) Tryzok Tryz.func59 rfl rfl (Nat.le_of_ble_eq_true rfl) ?_; refine hw_seq ?_; refine hw_region (E := TryzE) Tryzok ?_; refine rm 0 rfl rfl rfl rfl rfl rfl ?_; refine rm 1 rfl rfl rfl rfl rfl rfl ?_
  refine rq rfl rfl rfl rfl rfl ?_; refine rg_nil ?_; show HW _ _ _ _ _; (iterate 2 refine hw_seq ?_); refine hw_region (E := TryzE) Tryzok ?_; refine rq rfl rfl rfl rfl rfl ?_
  refine rc rfl rfl rfl rfl rfl rfl good82 (c82 _) (CoL.refl _) rfl rfl ?_; refine rq rfl rfl rfl rfl rfl ?_; refine rg_nil ?_; show HW _ _ _ _ _; refine hw_seq ?_; refine hw_region (E := TryzE) Tryzok ?_
  (iterate 2 refine rq rfl rfl rfl rfl rfl ?_); refine rg_nil ?_; show HW _ _ _ _ _; refine hw_cond _ rfl (fun r0 => ?_) (fun r0 => ?_)
  · skip
    have h0 := r0
    have h0 := of_decide_eq_false (not_t h0)
    try simp only [Int.toNat_natCast] at h0
    refine hw_seq ?_; refine hw_region (E := TryzE) Tryzok ?_; (iterate 2 refine rq rfl rfl rfl rfl rfl ?_); refine rg_nil ?_; show HW _ _ _ _ _; refine hw_ret ?_; refine ⟨.inr rfl, ?_⟩
    exact ⟨_, _, _, _, rfl, (by (repeat' apply And.intro) <;> first | trivial | exact Nat.le_of_ble_eq_true rfl | rfl), rfl, (by (repeat' apply And.intro) <;> first | trivial | exact Nat.le_of_ble_eq_true rfl | rfl), ⟨cci (by unfold crErr; simp [*] <;> omega), trivial⟩⟩
  · skip
    have h0 := r0
    have h0 := of_decide_eq_true (not_f h0)
    try simp only [Int.toNat_natCast] at h0
    refine hw_skip ?_; show HW _ _ _ _ _; (iterate 2 refine hw_seq ?_); refine hw_region (E := TryzE) Tryzok ?_; (iterate 3 refine rq rfl rfl rfl rfl rfl ?_)
    refine rc rfl rfl rfl rfl rfl rfl good60 (c60 _ _) (CoL.refl _) rfl rfl ?_; refine rq rfl rfl rfl rfl rfl ?_; refine rg_nil ?_; show HW _ _ _ _ _; refine hw_cond _ rfl (fun r1 => ?_) (fun r1 => ?_)
    · skip
      have h1 := r1
      have h1 := of_decide_eq_true h1
      try simp only [Int.toNat_natCast] at h1
      refine hw_seq ?_; refine hw_region (E := TryzE) Tryzok ?_; refine rq rfl rfl rfl rfl rfl ?_; refine rg_nil ?_; show HW _ _ _ _ _; refine hw_ret ?_; refine ⟨.inr rfl, ?_⟩
      exact ⟨_, _, _, _, rfl, (by (repeat' apply And.intro) <;> first | trivial | exact Nat.le_of_ble_eq_true rfl | rfl), rfl, (by (repeat' apply And.intro) <;> first | trivial | exact Nat.le_of_ble_eq_true rfl | rfl), ⟨cci (by unfold crErr; simp [*] <;> omega), trivial⟩⟩
    · skip
      have h1 := r1
      have h1 := of_decide_eq_false h1
      try simp only [Int.toNat_natCast] at h1
      refine hw_skip ?_; show HW _ _ _ _ _; (iterate 2 refine hw_seq ?_); refine hw_region (E := TryzE) Tryzok ?_; (iterate 4 refine rq rfl rfl rfl rfl rfl ?_); refine rg_nil ?_; show HW _ _ _ _ _
      refine hw_cond _ rfl (fun r2 => ?_) (fun r2 => ?_)
      · skip
        have h2 := r2
        have h2 := of_decide_eq_true h2
        try simp only [Int.toNat_natCast] at h2
        refine hw_seq ?_; refine hw_region (E := TryzE) Tryzok ?_; refine rq rfl rfl rfl rfl rfl ?_; refine rg_nil ?_; show HW _ _ _ _ _; refine hw_ret ?_; refine ⟨.inr rfl, ?_⟩
        exact ⟨_, _, _, _, rfl, (by (repeat' apply And.intro) <;> first | trivial | exact Nat.le_of_ble_eq_true rfl | rfl), rfl, (by (repeat' apply And.intro) <;> first | trivial | exact Nat.le_of_ble_eq_true rfl | rfl), ⟨cci (by unfold crErr; simp [*] <;> omega), trivial⟩⟩
      · skip
        have h2 := r2
        have h2 := of_decide_eq_false h2
        try simp only [Int.toNat_natCast] at h2
        refine hw_skip ?_; show HW _ _ _ _ _; refine hw_seq ?_; refine hw_region (E := TryzE) Tryzok ?_; refine rq rfl rfl rfl rfl rfl ?_; refine rg_nil ?_; show HW _ _ _ _ _; refine hw_ret ?_; refine ⟨.inr rfl, ?_⟩
        exact ⟨_, _, _, _, rfl, (by (repeat' apply And.intro) <;> first | trivial | exact Nat.le_of_ble_eq_true rfl | rfl), rfl, (by (repeat' apply And.intro) <;> first | trivial | exact Nat.le_of_ble_eq_true rfl | rfl), ⟨cci (by unfold crErr; simp [*] <;> omega), trivial⟩⟩
theorem good65 : goodFn Tryz.prog 65 := ⟨Tryz.f65, Tryz.func65, by kernel_rfl, by kernel_rfl⟩
theorem c65 (d : DB) (t : Tbl) : HPure Tryz.prog 65 [dbpc d, t.pc] (prOf [pI (crErr d t)]) := by
  refine hpure_of (nt := 22) Tryzok Tryz.func65 rfl rfl (Nat.le_of_ble_eq_true rfl) ?_; refine hw_seq ?_; refine hw_region (E := TryzE) Tryzok ?_; refine rm 0 rfl rfl rfl rfl rfl rfl ?_; refine rm 1 rfl rfl rfl rfl rfl rfl ?_
  refine rq rfl rfl rfl rfl rfl ?_; refine rg_nil ?_; show HW _ _ _ _ _; (iterate 2 refine hw_seq ?_); refine hw_region (E := TryzE) Tryzok ?_; refine rq rfl rfl rfl rfl rfl ?_
  refine rc rfl rfl rfl rfl rfl rfl good88 (c88 _) (CoL.refl _) rfl rfl ?_; refine rq rfl rfl rfl rfl rfl ?_; refine rg_nil ?_; show HW _ _ _ _ _; refine hw_seq ?_; refine hw_region (E := TryzE) Tryzok ?_
  (iterate 2 refine rq rfl rfl rfl rfl rfl ?_); refine rg_nil ?_; show HW _ _ _ _ _; refine hw_cond _ rfl (fun r0 => ?_) (fun r0 => ?_)
  · skip
    have h0 := r0
    have h0 := of_decide_eq_false (not_t h0)
    try simp only [Int.toNat_natCast] at h0
    refine hw_seq ?_; refine hw_region (E := TryzE) Tryzok ?_; (iterate 2 refine rq rfl rfl rfl rfl rfl ?_); refine rg_nil ?_; show HW _ _ _ _ _; refine hw_ret ?_; refine ⟨.inr rfl, ?_⟩
    exact ⟨_, _, _, _, rfl, (by (repeat' apply And.intro) <;> first | trivial | exact Nat.le_of_ble_eq_true rfl | rfl), rfl, (by (repeat' apply And.intro) <;> first | trivial | exact Nat.le_of_ble_eq_true rfl | rfl), ⟨cci (by unfold crErr; simp [*] <;> omega), trivial⟩⟩
  · skip
    have h0 := r0
    have h0 := of_decide_eq_true (not_f h0)
    try simp only [Int.toNat_natCast] at h0
    refine hw_skip ?_; show HW _ _ _ _ _; refine hw_seq ?_; refine hw_block ?_; refine hw_seq ?_; refine hw_region (E := TryzE) Tryzok ?_; (iterate 3 refine rq rfl rfl rfl rfl rfl ?_)
    refine rc rfl rfl rfl rfl rfl rfl good67 (c67 _ _) (CoL.refl _) rfl rfl ?_; (iterate 2 refine rq rfl rfl rfl rfl rfl ?_); refine rg_nil ?_; show HW _ _ _ _ _; refine hw_cond _ rfl (fun r1 => ?_) (fun r1 => ?_)
    · skip
      have h1 := r1
      have h1 := of_decide_eq_true h1
      try simp only [Int.toNat_natCast] at h1
      refine hw_seq ?_; refine hw_region (E := TryzE) Tryzok ?_; refine rq rfl rfl rfl rfl rfl ?_; refine rg_nil ?_; show HW _ _ _ _ _; refine hw_ret ?_; refine ⟨.inr rfl, ?_⟩
      exact ⟨_, _, _, _, rfl, (by (repeat' apply And.intro) <;> first | trivial | exact Nat.le_of_ble_eq_true rfl | rfl), rfl, (by (repeat' apply And.intro) <;> first | trivial | exact Nat.le_of_ble_eq_true rfl | rfl), ⟨cci (by unfold crErr; simp [*] <;> omega), trivial⟩⟩
    · skip
      have h1 := r1
      have h1 := of_decide_eq_false h1
      try simp only [Int.toNat_natCast] at h1
      refine hw_seq ?_; refine hw_region (E := TryzE) Tryzok ?_; (iterate 5 refine rq rfl rfl rfl rfl rfl ?_); refine rg_nil ?_; show HW _ _ _ _ _; refine hw_cond _ rfl (fun r2 => ?_) (fun r2 => ?_)
      · skip
        have h2 := r2
        have h2 := of_decide_eq_true h2
        try simp only [Int.toNat_natCast] at h2
        refine hw_seq ?_; refine hw_region (E := TryzE) Tryzok ?_; refine rq rfl rfl rfl rfl rfl ?_; refine rg_nil ?_; show HW _ _ _ _ _; refine hw_ret ?_; refine ⟨.inr rfl, ?_⟩
        exact ⟨_, _, _, _, rfl, (by (repeat' apply And.intro) <;> first | trivial | exact Nat.le_of_ble_eq_true rfl | rfl), rfl, (by (repeat' apply And.intro) <;> first | trivial | exact Nat.le_of_ble_eq_true rfl | rfl), ⟨cci (by unfold crErr; simp [*] <;> omega), trivial⟩⟩
      · skip
        have h2 := r2
        have h2 := of_decide_eq_false h2
        try simp only [Int.toNat_natCast] at h2
        refine hw_skip ?_; show HW _ _ _ _ _; refine hw_seq ?_; refine hw_region (E := TryzE) Tryzok ?_; refine rq rfl rfl rfl rfl rfl ?_; refine rg_nil ?_; show HW _ _ _ _ _; refine hw_ret ?_; refine ⟨.inr rfl, ?_⟩
        exact ⟨_, _, _, _, rfl, (by (repeat' apply And.intro) <;> first | trivial | exact Nat.le_of_ble_eq_true rfl | rfl), rfl, (by (repeat' apply And.intro) <;> first | trivial | exact Nat.le_of_ble_eq_true rfl | rfl), ⟨cci (by unfold crErr; simp [*] <;> omega), trivial⟩⟩
theorem good16 : goodFn Tryz.prog 16 := ⟨Tryz.f16, Tryz.func16, by kernel_rfl, by kernel_rfl⟩
theorem c16 (a b : DB) (ha : dbOk a) (hb : dbOk b) : HPure Tryz.prog 16 [dbpc a, dbpc b] (prOf [pB (decide (a = b))]) := by
  refine hpure_of (nt := 32) Tryzok Tryz.func16 rfl rfl (Nat.le_of_ble_eq_true rfl) ?_; refine hw_seq ?_; refine hw_region (E := TryzE) Tryzok ?_; refine rm 0 rfl rfl rfl rfl rfl rfl ?_; refine rm 1 rfl rfl rfl rfl rfl rfl ?_
  refine rq rfl rfl rfl rfl rfl ?_; refine rg_nil ?_; show HW _ _ _ _ _; (iterate 2 refine hw_seq ?_); refine hw_bo 0 0 rfl rfl (fun hn => ?_); refine hw_region (E := TryzE) Tryzok ?_; (iterate 7 refine rq rfl rfl rfl rfl rfl ?_)
  refine rg_nil ?_; show HW _ _ _ _ _; refine hw_cond _ rfl (fun r0 => ?_) (fun r0 => ?_)
  · skip
    have h0 := r0
    have h0 := of_decide_eq_false (not_t h0)
    try simp only [Int.toNat_natCast] at h0
    refine hw_seq ?_; refine hw_region (E := TryzE) Tryzok ?_; refine rq rfl rfl rfl rfl rfl ?_; refine rg_nil ?_; show HW _ _ _ _ _; refine hw_ret ?_; refine ⟨.inr rfl, ?_⟩
    exact ⟨_, _, _, _, rfl, (by (repeat' apply And.intro) <;> first | trivial | exact Nat.le_of_ble_eq_true rfl | rfl), rfl, (by (repeat' apply And.intro) <;> first | trivial | exact Nat.le_of_ble_eq_true rfl | rfl), ⟨ccb (decide_eq_false (fun e => h0 (by rw [e]))).symm, trivial⟩⟩
  · skip
    have h0 := r0
    have h0 := of_decide_eq_true (not_f h0)
    try simp only [Int.toNat_natCast] at h0
    refine hw_skip ?_; show HW _ _ _ _ _; refine hw_joinK (ι := Unit) ⟨[], []⟩ ⟨trivial, trivial⟩ (fun _i => ⟨[], []⟩) (fun _i => a = b) ?_ ?_
    · skip
      refine hw_seq ?_; refine hw_region (E := TryzE) Tryzok ?_; refine rq rfl rfl rfl rfl rfl ?_; refine rg_nil ?_; show HW _ _ _ _ _; refine hw_block ?_
      refine hw_loopK (ι := Nat) ⟨[(2, some _), (3, some _)], [(0, some _), (1, some _)]⟩ ⟨⟨⟨_, rfl, CoR.refl _⟩, ⟨_, rfl, CoR.refl _⟩, trivial⟩, ⟨⟨_, rfl, CoO.refl _⟩, ⟨_, rfl, CoO.refl _⟩, trivial⟩⟩ (fun i => ⟨[(5, some (vI i))], []⟩) (fun i => i ≤ a.length ∧ ∀ j, j < i → List.getD a j default = List.getD b j default) (fun i => a.length - i) (0) (⟨Nat.zero_le _, all_zero⟩) ⟨⟨⟨_, rfl, (by first | exact CoR.refl _ | exact coi (by omega) | exact cob (by simp_all))⟩, trivial⟩, trivial⟩ ?_
      rintro i ⟨hi, hI⟩
      (iterate 2 refine hw_seq ?_); refine hw_region (E := TryzE) Tryzok ?_; (iterate 5 refine rq rfl rfl rfl rfl rfl ?_); refine rg_nil ?_; show HW _ _ _ _ _; refine hw_cond _ rfl (fun r1 => ?_) (fun r1 => ?_)
      · skip
        have h1 := r1
        have h1 := of_decide_eq_true h1
        try simp only [Int.toNat_natCast] at h1
        refine hw_skip ?_; show HW _ _ _ _ _; refine hw_seq ?_; refine hw_block ?_; refine hw_seq ?_; refine hw_draw (E := TryzE) Tryzok Tryzmixed [0, 1, 2, 3, 4, 5, 6, 7, 8, 9, 10, 11] ?_
        (iterate 10 refine rq rfl rfl rfl rfl rfl ?_); refine rc rfl rfl rfl rfl rfl rfl good47 (c47 _ _ (ha.2 i (by omega)) (hb.2 i (by omega))) (CoL.refl _) rfl rfl ?_; refine rq rfl rfl rfl rfl rfl ?_; refine rg_nil ?_
        refine ⟨by kernel_rfl, ?_⟩; show HW _ _ _ _ _; refine hw_cond _ rfl (fun r2 => ?_) (fun r2 => ?_)
        · skip
          have h2 := r2
          have h2 := not_t h2
          have hN := of_decide_eq_false h2
          refine hw_seq ?_; refine hw_region (E := TryzE) Tryzok ?_; refine rq rfl rfl rfl rfl rfl ?_; refine rg_nil ?_; show HW _ _ _ _ _; refine hw_ret ?_; refine ⟨.inr rfl, ?_⟩
          exact ⟨_, _, _, _, rfl, (by (repeat' apply And.intro) <;> first | trivial | exact Nat.le_of_ble_eq_true rfl | rfl), rfl, (by (repeat' apply And.intro) <;> first | trivial | exact Nat.le_of_ble_eq_true rfl | rfl), ⟨ccb (decide_eq_false (fun e => hN (by subst e; rfl))).symm, trivial⟩⟩
        · skip
          have h2 := r2
          have h2 := not_f h2
          have hN := of_decide_eq_true h2
          refine hw_skip ?_; show HW _ _ _ _ _; refine hw_region (E := TryzE) Tryzok ?_; (iterate 3 refine rq rfl rfl rfl rfl rfl ?_); refine rg_nil ?_; refine ⟨i + 1, ?_, ?_, ?_⟩
          · exact ⟨by omega, all_succ hI (hN)⟩
          · first | omega | (dsimp only; omega)
          · exact ⟨⟨⟨_, rfl, (by first | exact CoR.refl _ | exact coi (by omega) | exact cob (by simp_all))⟩, ⟨_, rfl, CoR.refl _⟩, ⟨_, rfl, CoR.refl _⟩, trivial⟩, ⟨⟨_, rfl, CoO.refl _⟩, ⟨_, rfl, CoO.refl _⟩, trivial⟩⟩
      · skip
        have h1 := r1
        have h1 := of_decide_eq_false h1
        try simp only [Int.toNat_natCast] at h1
        refine hw_exit ?_; refine ⟨(), ?_, ?_⟩
        · exact list_eq (by omega) fun j hj => hI j (by omega)
        · exact ⟨trivial, trivial⟩
    · rintro _ hj
      refine hw_seq ?_; refine hw_region (E := TryzE) Tryzok ?_; refine rq rfl rfl rfl rfl rfl ?_; refine rg_nil ?_; show HW _ _ _ _ _; refine hw_ret ?_; refine ⟨.inr rfl, ?_⟩
      exact ⟨_, _, _, _, rfl, (by (repeat' apply And.intro) <;> first | trivial | exact Nat.le_of_ble_eq_true rfl | rfl), rfl, (by (repeat' apply And.intro) <;> first | trivial | exact Nat.le_of_ble_eq_true rfl | rfl), ⟨ccb (decide_eq_true hj).symm, trivial⟩⟩
end Go.Hx
end
