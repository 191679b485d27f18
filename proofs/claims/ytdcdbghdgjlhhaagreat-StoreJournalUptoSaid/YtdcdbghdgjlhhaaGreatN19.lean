/- A part of the proof: lemmas for the theorem of this claim, merged by a program of ours out of W7, Sp4. -/
import Derived.Test.YtdcdbghdgjlhhaaGreatN18
set_option linter.all false
section
namespace Go.Hx
open Go.Proofs
set_option maxRecDepth 100000
theorem c85h (r : Row) (h : r.vals.length ≤ 68719476736) : HFun Tryz.prog 85 [r.pc.toH] [] (.v (.agg [.p (.raw (.int .i64 r.id)), .ref 101 r.vals.length])) [(101, .arr true 3 47 r.vals.length (lf Val.c r.vals))] [] := by
  refine hfun_of (nt := 10) Tryzok Tryz.func85 rfl rfl (Nat.le_of_ble_eq_true rfl) rfl ?_; refine hw_seq ?_; refine hw_region (E := TryzE) Tryzok ?_; refine rm 99 rfl rfl rfl rfl rfl rfl ?_; refine rm 100 rfl rfl rfl rfl rfl rfl ?_
  refine rg_nil ?_; show HW _ _ _ _ _; refine hw_seq ?_; refine hw_draw (E := TryzE) Tryzok Tryzmixed [0, 1, 2, 3, 4, 5, 6, 7] ?_; (iterate 2 refine rq rfl rfl rfl rfl rfl ?_); refine rm 101 rfl rfl rfl rfl rfl rfl ?_
  (iterate 2 refine rq rfl rfl rfl rfl rfl ?_); refine ra 102 true rfl rfl rfl rfl rfl rfl ?_; refine rq rfl rfl rfl rfl rfl ?_; refine rs rfl rfl rfl rfl rfl ?_; refine rg_nil ?_; refine ⟨by kernel_rfl, ?_⟩; show HW _ _ _ _ _
  refine hw_ret ?_; refine ⟨.inr rfl, ?_⟩
  exact ⟨_, _, rfl, (by (repeat' apply And.intro) <;> first | trivial | exact Nat.le_of_ble_eq_true rfl), ⟨CoP.refl _, congrArg (HV.ref 101) (Nat.zero_add _), trivial⟩, ⟨⟨_, rfl, ⟨fun h => h, rfl, rfl, (Nat.zero_add _).symm, fun i j _ _ => CoP.of_eq (by simp [appF])⟩⟩, trivial⟩⟩
theorem c78g (l : List Val) (h : l.length ≤ 68719476736) : HFun Tryz.prog 78 [.one (.p (vals l))] [] (.v (.one (.ref 101 l.length))) [(101, .arr true 3 47 l.length (lf Val.c l))] [] := (c78h l h).swap 0 101
theorem c98h (r : Row) (h : r.vals.length ≤ 68719476736) : HFun Tryz.prog 98 [r.pc.toH] [] (.v (.agg [.p (.raw (.int .i64 r.id)), .ref 101 r.vals.length])) [(101, .arr true 3 47 r.vals.length (lf Val.c r.vals))] [] := by
  refine hfun_of (nt := 9) Tryzok Tryz.func98 rfl rfl (Nat.le_of_ble_eq_true rfl) rfl ?_; refine hw_seq ?_; refine hw_region (E := TryzE) Tryzok ?_; refine rm 0 rfl rfl rfl rfl rfl rfl ?_; refine rm 1 rfl rfl rfl rfl rfl rfl ?_
  refine rg_nil ?_; show HW _ _ _ _ _; refine hw_seq ?_; refine hw_draw (E := TryzE) Tryzok Tryzmixed [0, 1, 2, 3, 4, 5, 6] ?_; (iterate 4 refine rq rfl rfl rfl rfl rfl ?_)
  refine rg_fcall rfl rfl rfl rfl rfl rfl good78 (c78g r.vals h) (CoHCL.refl _) trivial rfl rfl ?_; refine rq rfl rfl rfl rfl rfl ?_; refine rs rfl rfl rfl rfl rfl ?_; refine rg_nil ?_; refine ⟨by kernel_rfl, ?_⟩; show HW _ _ _ _ _
  refine hw_ret ?_; refine ⟨.inr rfl, ?_⟩
  exact ⟨_, _, rfl, (by (repeat' apply And.intro) <;> first | trivial | exact Nat.le_of_ble_eq_true rfl), CoR.refl _, ⟨⟨_, rfl, CoO.refl _⟩, trivial⟩⟩
theorem c52h (r : Row) (h : r.vals.length ≤ 68719476736) : HFun Tryz.prog 52 [r.pc.toH] [] (.v (.agg [.p (.raw (.int .i64 r.id)), .ref 101 r.vals.length])) [(101, .arr true 3 47 r.vals.length (lf Val.c r.vals))] [] := by
  refine hfun_of (nt := 9) Tryzok Tryz.func52 rfl rfl (Nat.le_of_ble_eq_true rfl) rfl ?_; refine hw_seq ?_; refine hw_region (E := TryzE) Tryzok ?_; refine rm 0 rfl rfl rfl rfl rfl rfl ?_; refine rm 1 rfl rfl rfl rfl rfl rfl ?_
  refine rg_nil ?_; show HW _ _ _ _ _; refine hw_seq ?_; refine hw_draw (E := TryzE) Tryzok Tryzmixed [0, 1, 2, 3, 4, 5, 6] ?_; (iterate 4 refine rq rfl rfl rfl rfl rfl ?_)
  refine rg_fcall rfl rfl rfl rfl rfl rfl good78 (c78g r.vals h) (CoHCL.refl _) trivial rfl rfl ?_; refine rq rfl rfl rfl rfl rfl ?_; refine rs rfl rfl rfl rfl rfl ?_; refine rg_nil ?_; refine ⟨by kernel_rfl, ?_⟩; show HW _ _ _ _ _
  refine hw_ret ?_; refine ⟨.inr rfl, ?_⟩
  exact ⟨_, _, rfl, (by (repeat' apply And.intro) <;> first | trivial | exact Nat.le_of_ble_eq_true rfl), CoR.refl _, ⟨⟨_, rfl, CoO.refl _⟩, trivial⟩⟩
theorem c84h (t : Tbl) (l : List Row) (ha : t.attrs.length ≤ 68719476736) (hl : l.length ≤ 68719476736) (hr : rowsOk l) : HFun Tryz.prog 84 [t.pc.toH, .one (.p (rows l))] [] (.v (.agg [.p (.raw (.string t.name)), .p (strs t.attrs), .ref 100 l.length])) [(100, .arr true 2 45 l.length (lf Row.c l))] [] := by
  refine hfun_of (nt := 31) Tryzok Tryz.func84 rfl rfl (Nat.le_of_ble_eq_true rfl) rfl ?_; refine hw_seq ?_; refine hw_region (E := TryzE) Tryzok ?_; refine rm 0 rfl rfl rfl rfl rfl rfl ?_; refine rm 1 rfl rfl rfl rfl rfl rfl ?_
  refine rg_nil ?_; show HW _ _ _ _ _; refine hw_seq ?_; refine hw_draw (E := TryzE) Tryzok Tryzmixed [0, 1, 2, 3, 4, 5, 6, 7, 8] ?_; (iterate 2 refine rq rfl rfl rfl rfl rfl ?_); refine rm 2 rfl rfl rfl rfl rfl rfl ?_
  (iterate 2 refine rq rfl rfl rfl rfl rfl ?_); refine ra 3 true rfl rfl rfl rfl rfl rfl ?_; refine rq rfl rfl rfl rfl rfl ?_; refine rm 4 rfl rfl rfl rfl rfl rfl ?_; refine rs rfl rfl rfl rfl rfl ?_; refine rg_nil ?_
  refine ⟨by kernel_rfl, ?_⟩; refine hw_freeze_cell 4 1 rfl rfl rfl rfl rfl ?_; show HW _ _ _ _ _; (iterate 2 refine hw_seq ?_); refine hw_region (E := TryzE) Tryzok ?_; refine rq rfl rfl rfl rfl rfl ?_; refine rg_nil ?_
  show HW _ _ _ _ _; refine hw_block ?_; refine hw_adopt_cell 4 2 100 true 2 45 (lf Row.c l) (by decide) rfl rfl (CoP.sl rfl (.inr rfl) (fun h => h) (fun i j hi _ => absurd hi (Nat.not_lt_zero i))) (.inr rfl) rfl rfl ?_
  refine hw_loopK (ι := Nat) ⟨[(1, some _), (4, some _), (5, some _)], [(1, some _)]⟩ ⟨⟨⟨_, rfl, CoR.refl _⟩, ⟨_, rfl, CoR.refl _⟩, ⟨_, rfl, CoR.refl _⟩, trivial⟩, ⟨⟨_, rfl, CoO.refl _⟩, trivial⟩⟩ (fun i => ⟨[(6, some (vI i))], [(4, some (.box [.p (.raw (.string t.name)), .p (strs t.attrs), .ref 100 i])), (100, some (.arr true 2 45 i (lf Row.c l)))]⟩) (fun i => i ≤ l.length) (fun i => l.length - i) (0) (Nat.zero_le _) ⟨⟨⟨_, rfl, (by first | exact CoR.refl _ | exact coi (by omega) | exact cob (by simp_all))⟩, trivial⟩, ⟨⟨_, rfl, ⟨CoH.refl _, co_app0, CoH.refl _, trivial⟩⟩, ⟨_, rfl, CoO.refl _⟩, trivial⟩⟩ ?_
  rintro i hi
  (iterate 2 refine hw_seq ?_); refine hw_region (E := TryzE) Tryzok ?_; (iterate 4 refine rq rfl rfl rfl rfl rfl ?_); refine rg_nil ?_; show HW _ _ _ _ _; refine hw_cond _ rfl (fun r0 => ?_) (fun r0 => ?_)
  · skip
    have h0 := r0
    have h0 := of_decide_eq_true h0
    try simp only [Int.toNat_natCast] at h0
    refine hw_skip ?_; show HW _ _ _ _ _; refine hw_seq ?_; refine hw_block ?_; refine hw_draw (E := TryzE) Tryzok Tryzmixed [0, 1, 2, 3, 4, 5, 6, 7, 8, 9, 10] ?_; (iterate 6 refine rq rfl rfl rfl rfl rfl ?_)
    refine rc rfl rfl rfl rfl rfl rfl good85 (c85 _ (hr i (by omega)).1) (CoL.refl _) rfl rfl ?_; refine rm 5 rfl rfl rfl rfl rfl rfl ?_; refine ra 6 true rfl rfl rfl rfl rfl rfl ?_; refine rq rfl rfl rfl rfl rfl ?_
    refine rs rfl rfl rfl rfl rfl ?_; refine rg_nil ?_; refine ⟨by kernel_rfl, ?_⟩; show HW _ _ _ _ _; refine hw_region (E := TryzE) Tryzok ?_; (iterate 3 refine rq rfl rfl rfl rfl rfl ?_); refine rg_nil ?_
    refine ⟨i + 1, ?_, ?_, ?_⟩
    · show i + 1 ≤ _
      omega
    · first | omega | (dsimp only; omega)
    · exact ⟨⟨⟨_, rfl, (by first | exact CoR.refl _ | exact coi (by omega) | exact cob (by simp_all))⟩, ⟨_, rfl, CoR.refl _⟩, ⟨_, rfl, CoR.refl _⟩, ⟨_, rfl, CoR.refl _⟩, trivial⟩, ⟨⟨_, rfl, CoO.refl _⟩, ⟨_, rfl, (co_push (fun h => h) (lt2 (CoP.refl _) (CoP.refl _)))⟩, ⟨_, rfl, CoO.refl _⟩, trivial⟩⟩
  · skip
    have h0 := r0
    have h0 := of_decide_eq_false h0
    try simp only [Int.toNat_natCast] at h0
    obtain rfl : i = l.length := by omega
    refine hw_exit ?_; show HW _ _ _ _ _; refine hw_seq ?_; refine hw_region (E := TryzE) Tryzok ?_; refine rq rfl rfl rfl rfl rfl ?_; refine rs rfl rfl rfl rfl rfl ?_; refine rg_nil ?_; show HW _ _ _ _ _; refine hw_ret ?_
    refine ⟨.inr rfl, ?_⟩
    exact ⟨_, _, rfl, (by (repeat' apply And.intro) <;> first | trivial | exact Nat.le_of_ble_eq_true rfl), CoR.refl _, ⟨⟨_, rfl, CoO.refl _⟩, trivial⟩⟩
theorem c84g (t : Tbl) (l : List Row) (ha : t.attrs.length ≤ 68719476736) (hl : l.length ≤ 68719476736) (hr : rowsOk l) (i0 : Nat) (hi0 : i0 < l.length) : HFun Tryz.prog 84 [t.pc.toH, .one (.p (rows l))] [] (.v (.agg [.p (.raw (.string t.name)), .p (strs t.attrs), .ref 100 l.length])) [(100, .arrh 2 45 l.length [101] (holeF i0 (.ref 101 (l.getD i0 default).vals.length) (lf Row.c l))), (101, .arr true 3 47 (l.getD i0 default).vals.length (lf Val.c (l.getD i0 default).vals))] [] := by
  refine hfun_of (nt := 31) Tryzok Tryz.func84 rfl rfl (Nat.le_of_ble_eq_true rfl) rfl ?_; refine hw_seq ?_; refine hw_region (E := TryzE) Tryzok ?_; refine rm 0 rfl rfl rfl rfl rfl rfl ?_; refine rm 1 rfl rfl rfl rfl rfl rfl ?_
  refine rg_nil ?_; show HW _ _ _ _ _; refine hw_seq ?_; refine hw_draw (E := TryzE) Tryzok Tryzmixed [0, 1, 2, 3, 4, 5, 6, 7, 8] ?_; (iterate 2 refine rq rfl rfl rfl rfl rfl ?_); refine rm 2 rfl rfl rfl rfl rfl rfl ?_
  (iterate 2 refine rq rfl rfl rfl rfl rfl ?_); refine ra 3 true rfl rfl rfl rfl rfl rfl ?_; refine rq rfl rfl rfl rfl rfl ?_; refine rm 4 rfl rfl rfl rfl rfl rfl ?_; refine rs rfl rfl rfl rfl rfl ?_; refine rg_nil ?_
  refine ⟨by kernel_rfl, ?_⟩; refine hw_freeze_cell 4 1 rfl rfl rfl rfl rfl ?_; show HW _ _ _ _ _; (iterate 2 refine hw_seq ?_); refine hw_region (E := TryzE) Tryzok ?_; refine rq rfl rfl rfl rfl rfl ?_; refine rg_nil ?_
  show HW _ _ _ _ _; refine hw_block ?_; refine hw_adopt_cell 4 2 100 true 2 45 (lf Row.c l) (by decide) rfl rfl (CoP.sl rfl (.inr rfl) (fun h => h) (fun i j hi _ => absurd hi (Nat.not_lt_zero i))) (.inr rfl) rfl rfl ?_
  refine hw_loopK (ι := (Nat ⊕ Nat)) ⟨[(1, some _), (4, some _), (5, some _)], [(1, some _)]⟩ ⟨⟨⟨_, rfl, CoR.refl _⟩, ⟨_, rfl, CoR.refl _⟩, ⟨_, rfl, CoR.refl _⟩, trivial⟩, ⟨⟨_, rfl, CoO.refl _⟩, trivial⟩⟩ (fun x => match x with | .inl i => ⟨[(6, some (vI i))], [(4, some (.box [.p (.raw (.string t.name)), .p (strs t.attrs), .ref 100 i])), (100, some (.arr true 2 45 i (lf Row.c l)))]⟩ | .inr i => ⟨[(6, some (vI i))], [(4, some (.box [.p (.raw (.string t.name)), .p (strs t.attrs), .ref 100 i])), (100, some (.arrh 2 45 i [101] (holeF i0 (.ref 101 (l.getD i0 default).vals.length) (lf Row.c l)))), (101, some (.arr true 3 47 (l.getD i0 default).vals.length (lf Val.c (l.getD i0 default).vals)))]⟩) (fun x => match x with | .inl i => i ≤ i0 | .inr i => i0 < i ∧ i ≤ l.length) (fun x => match x with | .inl i => l.length - i | .inr i => l.length - i) (.inl 0) (Nat.zero_le _) ⟨⟨⟨_, rfl, (by first | exact CoR.refl _ | exact coi (by omega) | exact cob (by simp_all))⟩, trivial⟩, ⟨⟨_, rfl, ⟨CoH.refl _, co_app0, CoH.refl _, trivial⟩⟩, ⟨_, rfl, CoO.refl _⟩, trivial⟩⟩ ?_
  rintro (i | i) hp
  rcases Nat.lt_or_ge i i0 with hlt | hge
  · skip
    have hp : i ≤ i0 := hp
    (iterate 2 refine hw_seq ?_); refine hw_region (E := TryzE) Tryzok ?_; (iterate 4 refine rq rfl rfl rfl rfl rfl ?_); refine rg_nil ?_; show HW _ _ _ _ _; refine hw_cond _ rfl (fun r0 => ?_) (fun r0 => ?_)
    · skip
      have h0 := r0
      have h0 := of_decide_eq_true h0
      try simp only [Int.toNat_natCast] at h0
      refine hw_skip ?_; show HW _ _ _ _ _; refine hw_seq ?_; refine hw_block ?_; refine hw_draw (E := TryzE) Tryzok Tryzmixed [0, 1, 2, 3, 4, 5, 6, 7, 8, 9, 10] ?_; (iterate 6 refine rq rfl rfl rfl rfl rfl ?_)
      refine rc rfl rfl rfl rfl rfl rfl good85 (c85 _ (hr i (by omega)).1) (CoL.refl _) rfl rfl ?_; refine rm 5 rfl rfl rfl rfl rfl rfl ?_; refine ra 6 true rfl rfl rfl rfl rfl rfl ?_; refine rq rfl rfl rfl rfl rfl ?_
      refine rs rfl rfl rfl rfl rfl ?_; refine rg_nil ?_; refine ⟨by kernel_rfl, ?_⟩; show HW _ _ _ _ _; refine hw_region (E := TryzE) Tryzok ?_; (iterate 3 refine rq rfl rfl rfl rfl rfl ?_); refine rg_nil ?_
      refine ⟨.inl (i + 1), ?_, ?_, ?_⟩
      · show i + 1 ≤ i0
        omega
      · first | omega | (dsimp only; omega) | (show l.length - (i + 1) < l.length - i; omega)
      · exact ⟨⟨⟨_, rfl, (by first | exact CoR.refl _ | exact coi (by omega) | exact cob (by simp_all))⟩, ⟨_, rfl, CoR.refl _⟩, ⟨_, rfl, CoR.refl _⟩, ⟨_, rfl, CoR.refl _⟩, trivial⟩, ⟨⟨_, rfl, CoO.refl _⟩, ⟨_, rfl, (co_push (fun h => h) (lt2 (CoP.refl _) (CoP.refl _)))⟩, ⟨_, rfl, CoO.refl _⟩, trivial⟩⟩
    · skip
      have h0 := r0
      have h0 := of_decide_eq_false h0
      try simp only [Int.toNat_natCast] at h0
      exfalso
      omega
  · skip
    have hp : i ≤ i0 := hp
    obtain rfl : i = i0 := by omega
    refine hw_co 100 (.arrh 2 45 i [] fun a b => .p (lf Row.c l a b)) rfl ⟨.inl rfl, rfl, rfl, rfl, fun _ _ _ _ => CoH.refl _⟩ ?_; (iterate 2 refine hw_seq ?_); refine hw_region (E := TryzE) Tryzok ?_
    (iterate 4 refine rq rfl rfl rfl rfl rfl ?_); refine rg_nil ?_; show HW _ _ _ _ _; refine hw_cond _ rfl (fun r1 => ?_) (fun r1 => ?_)
    · skip
      have h1 := r1
      have h1 := of_decide_eq_true h1
      try simp only [Int.toNat_natCast] at h1
      refine hw_skip ?_; show HW _ _ _ _ _; refine hw_seq ?_; refine hw_block ?_; refine hw_draw (E := TryzE) Tryzok Tryzmixed [0, 1, 2, 3, 4, 5, 6, 7, 8, 9, 10] ?_; (iterate 6 refine rq rfl rfl rfl rfl rfl ?_)
      refine rg_fcall rfl rfl rfl rfl rfl rfl good85 (c85h (l.getD i default) (hr i (by omega)).1) (CoHCL.refl _) trivial rfl rfl ?_; refine rm 7 rfl rfl rfl rfl rfl rfl ?_; refine ra 8 true rfl rfl rfl rfl rfl rfl ?_
      refine rq rfl rfl rfl rfl rfl ?_; refine rs rfl rfl rfl rfl rfl ?_; refine rg_nil ?_; refine ⟨by kernel_rfl, ?_⟩; show HW _ _ _ _ _; refine hw_region (E := TryzE) Tryzok ?_; (iterate 3 refine rq rfl rfl rfl rfl rfl ?_)
      refine rg_nil ?_; refine ⟨.inr (i + 1), ?_, ?_, ?_⟩
      · show i < i + 1 ∧ i + 1 ≤ l.length
        omega
      · first | omega | (dsimp only; omega) | (show l.length - (i + 1) < l.length - i; omega)
      · exact ⟨⟨⟨_, rfl, (by first | exact CoR.refl _ | exact coi (by omega) | exact cob (by simp_all))⟩, ⟨_, rfl, CoR.refl _⟩, ⟨_, rfl, CoR.refl _⟩, ⟨_, rfl, CoR.refl _⟩, trivial⟩, ⟨⟨_, rfl, CoO.refl _⟩, ⟨_, rfl, (hole_push0 (CoP.refl _) (CoH.refl _) (fun _ h => h))⟩, ⟨_, rfl, CoO.refl _⟩, ⟨_, rfl, CoO.refl _⟩, trivial⟩⟩
    · skip
      have h1 := r1
      have h1 := of_decide_eq_false h1
      try simp only [Int.toNat_natCast] at h1
      exfalso
      omega
  · skip
    have hp : i0 < i ∧ i ≤ l.length := hp
    obtain ⟨hp1, hp2⟩ := hp
    (iterate 2 refine hw_seq ?_); refine hw_region (E := TryzE) Tryzok ?_; (iterate 4 refine rq rfl rfl rfl rfl rfl ?_); refine rg_nil ?_; show HW _ _ _ _ _; refine hw_cond _ rfl (fun r2 => ?_) (fun r2 => ?_)
    · skip
      have h2 := r2
      have h2 := of_decide_eq_true h2
      try simp only [Int.toNat_natCast] at h2
      refine hw_skip ?_; show HW _ _ _ _ _; refine hw_seq ?_; refine hw_block ?_; refine hw_draw (E := TryzE) Tryzok Tryzmixed [0, 1, 2, 3, 4, 5, 6, 7, 8, 9, 10] ?_; (iterate 6 refine rq rfl rfl rfl rfl rfl ?_)
      refine rc rfl rfl rfl rfl rfl rfl good85 (c85 _ (hr i (by omega)).1) (CoL.refl _) rfl rfl ?_; refine rm 9 rfl rfl rfl rfl rfl rfl ?_; refine ra 10 true rfl rfl rfl rfl rfl rfl ?_; refine rq rfl rfl rfl rfl rfl ?_
      refine rs rfl rfl rfl rfl rfl ?_; refine rg_nil ?_; refine ⟨by kernel_rfl, ?_⟩; show HW _ _ _ _ _; refine hw_region (E := TryzE) Tryzok ?_; (iterate 3 refine rq rfl rfl rfl rfl rfl ?_); refine rg_nil ?_
      refine ⟨.inr (i + 1), ?_, ?_, ?_⟩
      · show i0 < i + 1 ∧ i + 1 ≤ l.length
        omega
      · first | omega | (dsimp only; omega) | (show l.length - (i + 1) < l.length - i; omega)
      · exact ⟨⟨⟨_, rfl, (by first | exact CoR.refl _ | exact coi (by omega) | exact cob (by simp_all))⟩, ⟨_, rfl, CoR.refl _⟩, ⟨_, rfl, CoR.refl _⟩, ⟨_, rfl, CoR.refl _⟩, trivial⟩, ⟨⟨_, rfl, CoO.refl _⟩, ⟨_, rfl, (hole_push hp1 (lt2 (CoP.refl _) (CoP.refl _)) (fun _ h => h))⟩, ⟨_, rfl, CoO.refl _⟩, ⟨_, rfl, CoO.refl _⟩, trivial⟩⟩
    · skip
      have h2 := r2
      have h2 := of_decide_eq_false h2
      try simp only [Int.toNat_natCast] at h2
      obtain rfl : i = l.length := by omega
      refine hw_exit ?_; show HW _ _ _ _ _; refine hw_seq ?_; refine hw_region (E := TryzE) Tryzok ?_; refine rq rfl rfl rfl rfl rfl ?_; refine rs rfl rfl rfl rfl rfl ?_; refine rg_nil ?_; show HW _ _ _ _ _; refine hw_ret ?_
      refine ⟨.inr rfl, ?_⟩
      exact ⟨_, _, rfl, (by (repeat' apply And.intro) <;> first | trivial | exact Nat.le_of_ble_eq_true rfl), CoR.refl _, ⟨⟨_, rfl, CoO.refl _⟩, ⟨_, rfl, CoO.refl _⟩, trivial⟩⟩
theorem c94h (t : Tbl) (l : List Row) (ha : t.attrs.length ≤ 68719476736) (hl : l.length ≤ 68719476736) (hr : rowsOk l) : HFun Tryz.prog 94 [t.pc.toH, .one (.p (rows l))] [] (.v (.agg [.p (.raw (.string t.name)), .p (strs t.attrs), .ref 100 l.length])) [(100, .arr true 2 45 l.length (lf Row.c l))] [] := by
  refine hfun_of (nt := 29) Tryzok Tryz.func94 rfl rfl (Nat.le_of_ble_eq_true rfl) rfl ?_; refine hw_seq ?_; refine hw_region (E := TryzE) Tryzok ?_; refine rm 0 rfl rfl rfl rfl rfl rfl ?_; refine rm 1 rfl rfl rfl rfl rfl rfl ?_
  refine rg_nil ?_; show HW _ _ _ _ _; refine hw_seq ?_; refine hw_draw (E := TryzE) Tryzok Tryzmixed [0, 1, 2, 3, 4, 5, 6, 7] ?_; (iterate 4 refine rq rfl rfl rfl rfl rfl ?_)
  refine rc rfl rfl rfl rfl rfl rfl good77 (c77 _ ha) (CoL.refl _) rfl rfl ?_; refine rq rfl rfl rfl rfl rfl ?_; refine rm 2 rfl rfl rfl rfl rfl rfl ?_; refine rs rfl rfl rfl rfl rfl ?_; refine rg_nil ?_; refine ⟨by kernel_rfl, ?_⟩
  show HW _ _ _ _ _; (iterate 2 refine hw_seq ?_); refine hw_region (E := TryzE) Tryzok ?_; (iterate 3 refine rq rfl rfl rfl rfl rfl ?_); refine rg_nil ?_; show HW _ _ _ _ _; refine hw_block ?_
  refine hw_adopt_cell 2 2 100 true 2 45 (lf Row.c l) (by decide) rfl rfl (CoP.sl rfl (.inr rfl) (fun h => h) (fun i j hi _ => absurd hi (Nat.not_lt_zero i))) (.inr rfl) rfl rfl ?_
  refine hw_loopK (ι := Nat) ⟨[(4, some _), (5, some _), (14, some _), (15, some _)], [(1, some _)]⟩ ⟨⟨⟨_, rfl, CoR.refl _⟩, ⟨_, rfl, CoR.refl _⟩, ⟨_, rfl, CoR.refl _⟩, ⟨_, rfl, CoR.refl _⟩, trivial⟩, ⟨⟨_, rfl, CoO.refl _⟩, trivial⟩⟩ (fun i => ⟨[(16, some (vI i))], [(2, some (.box [.p (.raw (.string t.name)), .p (strs t.attrs), .ref 100 i])), (100, some (.arr true 2 45 i (lf Row.c l)))]⟩) (fun i => i ≤ l.length) (fun i => l.length - i) (0) (Nat.zero_le _) ⟨⟨⟨_, rfl, (by first | exact CoR.refl _ | exact coi (by omega) | exact cob (by simp_all))⟩, trivial⟩, ⟨⟨_, rfl, CoO.refl _⟩, ⟨_, rfl, CoO.refl _⟩, trivial⟩⟩ ?_
  rintro i hi
  refine hw_seq ?_; refine hw_region (E := TryzE) Tryzok ?_; refine rq rfl rfl rfl rfl rfl ?_; refine rg_nil ?_; show HW _ _ _ _ _; refine hw_seq ?_; refine hw_cond _ rfl (fun r0 => ?_) (fun r0 => ?_)
  · skip
    have h0 := r0
    have h0 := of_decide_eq_true h0
    try simp only [Int.toNat_natCast] at h0
    refine hw_skip ?_; show HW _ _ _ _ _; refine hw_seq ?_; refine hw_block ?_; refine hw_seq ?_; refine hw_region (E := TryzE) Tryzok ?_; (iterate 2 refine rq rfl rfl rfl rfl rfl ?_); refine rm 3 rfl rfl rfl rfl rfl rfl ?_
    refine rs rfl rfl rfl rfl rfl ?_; refine rg_nil ?_; show HW _ _ _ _ _; refine hw_draw (E := TryzE) Tryzok Tryzmixed [0, 1, 2, 3, 4, 5, 6, 7] ?_; (iterate 3 refine rq rfl rfl rfl rfl rfl ?_)
    refine rc rfl rfl rfl rfl rfl rfl good98 (c98 _ (hr i (by omega)).1) (CoL.refl _) rfl rfl ?_; refine rm 4 rfl rfl rfl rfl rfl rfl ?_; refine ra 5 true rfl rfl rfl rfl rfl rfl ?_; refine rq rfl rfl rfl rfl rfl ?_
    refine rs rfl rfl rfl rfl rfl ?_; refine rg_nil ?_; refine ⟨by kernel_rfl, ?_⟩; show HW _ _ _ _ _; refine hw_region (E := TryzE) Tryzok ?_; (iterate 2 refine rq rfl rfl rfl rfl rfl ?_); refine rg_nil ?_
    refine ⟨i + 1, ?_, ?_, ?_⟩
    · show i + 1 ≤ _
      omega
    · first | omega | (dsimp only; omega)
    · exact ⟨⟨⟨_, rfl, (by first | exact CoR.refl _ | exact coi (by omega) | exact cob (by simp_all))⟩, ⟨_, rfl, CoR.refl _⟩, ⟨_, rfl, CoR.refl _⟩, ⟨_, rfl, CoR.refl _⟩, ⟨_, rfl, CoR.refl _⟩, trivial⟩, ⟨⟨_, rfl, CoO.refl _⟩, ⟨_, rfl, (co_push (fun h => h) (lt2 (CoP.refl _) (CoP.refl _)))⟩, ⟨_, rfl, CoO.refl _⟩, trivial⟩⟩
  · skip
    have h0 := r0
    have h0 := of_decide_eq_false h0
    try simp only [Int.toNat_natCast] at h0
    obtain rfl : i = l.length := by omega
    refine hw_exit ?_; show HW _ _ _ _ _; refine hw_seq ?_; refine hw_region (E := TryzE) Tryzok ?_; refine rq rfl rfl rfl rfl rfl ?_; refine rs rfl rfl rfl rfl rfl ?_; refine rg_nil ?_; show HW _ _ _ _ _; refine hw_ret ?_
    refine ⟨.inr rfl, ?_⟩
    exact ⟨_, _, rfl, (by (repeat' apply And.intro) <;> first | trivial | exact Nat.le_of_ble_eq_true rfl), CoR.refl _, ⟨⟨_, rfl, CoO.refl _⟩, trivial⟩⟩
theorem c94g (t : Tbl) (l : List Row) (ha : t.attrs.length ≤ 68719476736) (hl : l.length ≤ 68719476736) (hr : rowsOk l) (i0 : Nat) (hi0 : i0 < l.length) : HFun Tryz.prog 94 [t.pc.toH, .one (.p (rows l))] [] (.v (.agg [.p (.raw (.string t.name)), .p (strs t.attrs), .ref 100 l.length])) [(100, .arrh 2 45 l.length [101] (holeF i0 (.ref 101 (l.getD i0 default).vals.length) (lf Row.c l))), (101, .arr true 3 47 (l.getD i0 default).vals.length (lf Val.c (l.getD i0 default).vals))] [] := by
  refine hfun_of (nt := 29) Tryzok Tryz.func94 rfl rfl (Nat.le_of_ble_eq_true rfl) rfl ?_; refine hw_seq ?_; refine hw_region (E := TryzE) Tryzok ?_; refine rm 0 rfl rfl rfl rfl rfl rfl ?_; refine rm 1 rfl rfl rfl rfl rfl rfl ?_
  refine rg_nil ?_; show HW _ _ _ _ _; refine hw_seq ?_; refine hw_draw (E := TryzE) Tryzok Tryzmixed [0, 1, 2, 3, 4, 5, 6, 7] ?_; (iterate 4 refine rq rfl rfl rfl rfl rfl ?_)
  refine rc rfl rfl rfl rfl rfl rfl good77 (c77 _ ha) (CoL.refl _) rfl rfl ?_; refine rq rfl rfl rfl rfl rfl ?_; refine rm 2 rfl rfl rfl rfl rfl rfl ?_; refine rs rfl rfl rfl rfl rfl ?_; refine rg_nil ?_; refine ⟨by kernel_rfl, ?_⟩
  show HW _ _ _ _ _; (iterate 2 refine hw_seq ?_); refine hw_region (E := TryzE) Tryzok ?_; (iterate 3 refine rq rfl rfl rfl rfl rfl ?_); refine rg_nil ?_; show HW _ _ _ _ _; refine hw_block ?_
  refine hw_adopt_cell 2 2 100 true 2 45 (lf Row.c l) (by decide) rfl rfl (CoP.sl rfl (.inr rfl) (fun h => h) (fun i j hi _ => absurd hi (Nat.not_lt_zero i))) (.inr rfl) rfl rfl ?_
  refine hw_loopK (ι := (Nat ⊕ Nat)) ⟨[(4, some _), (5, some _), (14, some _), (15, some _)], [(1, some _)]⟩ ⟨⟨⟨_, rfl, CoR.refl _⟩, ⟨_, rfl, CoR.refl _⟩, ⟨_, rfl, CoR.refl _⟩, ⟨_, rfl, CoR.refl _⟩, trivial⟩, ⟨⟨_, rfl, CoO.refl _⟩, trivial⟩⟩ (fun x => match x with | .inl i => ⟨[(16, some (vI i))], [(2, some (.box [.p (.raw (.string t.name)), .p (strs t.attrs), .ref 100 i])), (100, some (.arr true 2 45 i (lf Row.c l)))]⟩ | .inr i => ⟨[(16, some (vI i))], [(2, some (.box [.p (.raw (.string t.name)), .p (strs t.attrs), .ref 100 i])), (100, some (.arrh 2 45 i [101] (holeF i0 (.ref 101 (l.getD i0 default).vals.length) (lf Row.c l)))), (101, some (.arr true 3 47 (l.getD i0 default).vals.length (lf Val.c (l.getD i0 default).vals)))]⟩) (fun x => match x with | .inl i => i ≤ i0 | .inr i => i0 < i ∧ i ≤ l.length) (fun x => match x with | .inl i => l.length - i | .inr i => l.length - i) (.inl 0) (Nat.zero_le _) ⟨⟨⟨_, rfl, (by first | exact CoR.refl _ | exact coi (by omega) | exact cob (by simp_all))⟩, trivial⟩, ⟨⟨_, rfl, CoO.refl _⟩, ⟨_, rfl, CoO.refl _⟩, trivial⟩⟩ ?_
  rintro (i | i) hp
  rcases Nat.lt_or_ge i i0 with hlt | hge
  · skip
    have hp : i ≤ i0 := hp
    refine hw_seq ?_; refine hw_region (E := TryzE) Tryzok ?_; refine rq rfl rfl rfl rfl rfl ?_; refine rg_nil ?_; show HW _ _ _ _ _; refine hw_seq ?_; refine hw_cond _ rfl (fun r0 => ?_) (fun r0 => ?_)
    · skip
      have h0 := r0
      have h0 := of_decide_eq_true h0
      try simp only [Int.toNat_natCast] at h0
      refine hw_skip ?_; show HW _ _ _ _ _; refine hw_seq ?_; refine hw_block ?_; refine hw_seq ?_; refine hw_region (E := TryzE) Tryzok ?_; (iterate 2 refine rq rfl rfl rfl rfl rfl ?_); refine rm 3 rfl rfl rfl rfl rfl rfl ?_
      refine rs rfl rfl rfl rfl rfl ?_; refine rg_nil ?_; show HW _ _ _ _ _; refine hw_draw (E := TryzE) Tryzok Tryzmixed [0, 1, 2, 3, 4, 5, 6, 7] ?_; (iterate 3 refine rq rfl rfl rfl rfl rfl ?_)
      refine rc rfl rfl rfl rfl rfl rfl good98 (c98 _ (hr i (by omega)).1) (CoL.refl _) rfl rfl ?_; refine rm 4 rfl rfl rfl rfl rfl rfl ?_; refine ra 5 true rfl rfl rfl rfl rfl rfl ?_; refine rq rfl rfl rfl rfl rfl ?_
      refine rs rfl rfl rfl rfl rfl ?_; refine rg_nil ?_; refine ⟨by kernel_rfl, ?_⟩; show HW _ _ _ _ _; refine hw_region (E := TryzE) Tryzok ?_; (iterate 2 refine rq rfl rfl rfl rfl rfl ?_); refine rg_nil ?_
      refine ⟨.inl (i + 1), ?_, ?_, ?_⟩
      · show i + 1 ≤ i0
        omega
      · first | omega | (dsimp only; omega) | (show l.length - (i + 1) < l.length - i; omega)
      · exact ⟨⟨⟨_, rfl, (by first | exact CoR.refl _ | exact coi (by omega) | exact cob (by simp_all))⟩, ⟨_, rfl, CoR.refl _⟩, ⟨_, rfl, CoR.refl _⟩, ⟨_, rfl, CoR.refl _⟩, ⟨_, rfl, CoR.refl _⟩, trivial⟩, ⟨⟨_, rfl, CoO.refl _⟩, ⟨_, rfl, (co_push (fun h => h) (lt2 (CoP.refl _) (CoP.refl _)))⟩, ⟨_, rfl, CoO.refl _⟩, trivial⟩⟩
    · skip
      have h0 := r0
      have h0 := of_decide_eq_false h0
      try simp only [Int.toNat_natCast] at h0
      exfalso
      omega
  · skip
    have hp : i ≤ i0 := hp
    obtain rfl : i = i0 := by omega
    refine hw_co 100 (.arrh 2 45 i [] fun a b => .p (lf Row.c l a b)) rfl ⟨.inl rfl, rfl, rfl, rfl, fun _ _ _ _ => CoH.refl _⟩ ?_; refine hw_seq ?_; refine hw_region (E := TryzE) Tryzok ?_; refine rq rfl rfl rfl rfl rfl ?_
    refine rg_nil ?_; show HW _ _ _ _ _; refine hw_seq ?_; refine hw_cond _ rfl (fun r1 => ?_) (fun r1 => ?_)
    · skip
      have h1 := r1
      have h1 := of_decide_eq_true h1
      try simp only [Int.toNat_natCast] at h1
      refine hw_skip ?_; show HW _ _ _ _ _; refine hw_seq ?_; refine hw_block ?_; refine hw_seq ?_; refine hw_region (E := TryzE) Tryzok ?_; (iterate 2 refine rq rfl rfl rfl rfl rfl ?_); refine rm 6 rfl rfl rfl rfl rfl rfl ?_
      refine rs rfl rfl rfl rfl rfl ?_; refine rg_nil ?_; show HW _ _ _ _ _; refine hw_draw (E := TryzE) Tryzok Tryzmixed [0, 1, 2, 3, 4, 5, 6, 7] ?_; (iterate 3 refine rq rfl rfl rfl rfl rfl ?_)
      refine rg_fcall rfl rfl rfl rfl rfl rfl good98 (c98h (l.getD i default) (hr i (by omega)).1) (CoHCL.refl _) trivial rfl rfl ?_; refine rm 7 rfl rfl rfl rfl rfl rfl ?_; refine ra 8 true rfl rfl rfl rfl rfl rfl ?_
      refine rq rfl rfl rfl rfl rfl ?_; refine rs rfl rfl rfl rfl rfl ?_; refine rg_nil ?_; refine ⟨by kernel_rfl, ?_⟩; show HW _ _ _ _ _; refine hw_region (E := TryzE) Tryzok ?_; (iterate 2 refine rq rfl rfl rfl rfl rfl ?_)
      refine rg_nil ?_; refine ⟨.inr (i + 1), ?_, ?_, ?_⟩
      · show i < i + 1 ∧ i + 1 ≤ l.length
        omega
      · first | omega | (dsimp only; omega) | (show l.length - (i + 1) < l.length - i; omega)
      · exact ⟨⟨⟨_, rfl, (by first | exact CoR.refl _ | exact coi (by omega) | exact cob (by simp_all))⟩, ⟨_, rfl, CoR.refl _⟩, ⟨_, rfl, CoR.refl _⟩, ⟨_, rfl, CoR.refl _⟩, ⟨_, rfl, CoR.refl _⟩, trivial⟩, ⟨⟨_, rfl, CoO.refl _⟩, ⟨_, rfl, (hole_push0 (CoP.refl _) (CoH.refl _) (fun _ h => h))⟩, ⟨_, rfl, CoO.refl _⟩, ⟨_, rfl, CoO.refl _⟩, trivial⟩⟩
    · skip
      have h1 := r1
      have h1 := of_decide_eq_false h1
      try simp only [Int.toNat_natCast] at h1
      exfalso
      omega
  · skip
    have hp : i0 < i ∧ i ≤ l.length := hp
    obtain ⟨hp1, hp2⟩ := hp
    refine hw_seq ?_; refine hw_region (E := TryzE) Tryzok ?_; refine rq rfl rfl rfl rfl rfl ?_; refine rg_nil ?_; show HW _ _ _ _ _; refine hw_seq ?_; refine hw_cond _ rfl (fun r2 => ?_) (fun r2 => ?_)
    · skip
      have h2 := r2
      have h2 := of_decide_eq_true h2
      try simp only [Int.toNat_natCast] at h2
      refine hw_skip ?_; show HW _ _ _ _ _; refine hw_seq ?_; refine hw_block ?_; refine hw_seq ?_; refine hw_region (E := TryzE) Tryzok ?_; (iterate 2 refine rq rfl rfl rfl rfl rfl ?_); refine rm 9 rfl rfl rfl rfl rfl rfl ?_
      refine rs rfl rfl rfl rfl rfl ?_; refine rg_nil ?_; show HW _ _ _ _ _; refine hw_draw (E := TryzE) Tryzok Tryzmixed [0, 1, 2, 3, 4, 5, 6, 7] ?_; (iterate 3 refine rq rfl rfl rfl rfl rfl ?_)
      refine rc rfl rfl rfl rfl rfl rfl good98 (c98 _ (hr i (by omega)).1) (CoL.refl _) rfl rfl ?_; refine rm 10 rfl rfl rfl rfl rfl rfl ?_; refine ra 11 true rfl rfl rfl rfl rfl rfl ?_; refine rq rfl rfl rfl rfl rfl ?_
      refine rs rfl rfl rfl rfl rfl ?_; refine rg_nil ?_; refine ⟨by kernel_rfl, ?_⟩; show HW _ _ _ _ _; refine hw_region (E := TryzE) Tryzok ?_; (iterate 2 refine rq rfl rfl rfl rfl rfl ?_); refine rg_nil ?_
      refine ⟨.inr (i + 1), ?_, ?_, ?_⟩
      · show i0 < i + 1 ∧ i + 1 ≤ l.length
        omega
      · first | omega | (dsimp only; omega) | (show l.length - (i + 1) < l.length - i; omega)
      · exact ⟨⟨⟨_, rfl, (by first | exact CoR.refl _ | exact coi (by omega) | exact cob (by simp_all))⟩, ⟨_, rfl, CoR.refl _⟩, ⟨_, rfl, CoR.refl _⟩, ⟨_, rfl, CoR.refl _⟩, ⟨_, rfl, CoR.refl _⟩, trivial⟩, ⟨⟨_, rfl, CoO.refl _⟩, ⟨_, rfl, (hole_push hp1 (lt2 (CoP.refl _) (CoP.refl _)) (fun _ h => h))⟩, ⟨_, rfl, CoO.refl _⟩, ⟨_, rfl, CoO.refl _⟩, trivial⟩⟩
    · skip
      have h2 := r2
      have h2 := of_decide_eq_false h2
      try simp only [Int.toNat_natCast] at h2
      obtain rfl : i = l.length := by omega
      refine hw_exit ?_; show HW _ _ _ _ _; refine hw_seq ?_; refine hw_region (E := TryzE) Tryzok ?_; refine rq rfl rfl rfl rfl rfl ?_; refine rs rfl rfl rfl rfl rfl ?_; refine rg_nil ?_; show HW _ _ _ _ _; refine hw_ret ?_
      refine ⟨.inr rfl, ?_⟩
      exact ⟨_, _, rfl, (by (repeat' apply And.intro) <;> first | trivial | exact Nat.le_of_ble_eq_true rfl), CoR.refl _, ⟨⟨_, rfl, CoO.refl _⟩, ⟨_, rfl, CoO.refl _⟩, trivial⟩⟩
end Go.Hx
end
section
namespace Go.Hx
theorem rowsErr_cons {n : Nat} {b : Int} {x : Row} {l : List Row} (h : rowsErr n b (x :: l) = 0) : b < x.id ∧ x.vals.length = n ∧ x.vals.all okVal = true ∧ rowsErr n x.id l = 0 := by
  simp only [rowsErr] at h
  split at h
  · omega
  · split at h
    · omega
    · split at h
      · omega
      · rename_i h1 h2 h3
        exact ⟨by omega, by omega, by simpa using h3, h⟩
theorem rowsErr_mem {n : Nat} : ∀ {l : List Row} {b : Int}, rowsErr n b l = 0 → ∀ x ∈ l, b < x.id ∧ x.vals.length = n ∧ x.vals.all okVal = true
  | [], _, _, x, hx => by cases hx
  | y :: l, b, h, x, hx => by
    obtain ⟨h1, h2, h3, h4⟩ := rowsErr_cons h
    rcases List.mem_cons.1 hx with rfl | hx
    · exact ⟨h1, h2, h3⟩
    · obtain ⟨g1, g2⟩ := rowsErr_mem h4 x hx
      exact ⟨by omega, g2⟩
abbrev Sorted (l : List Row) : Prop := l.Pairwise fun a b => a.id < b.id
theorem rowsErr_sorted {n : Nat} : ∀ {l : List Row} {b : Int}, rowsErr n b l = 0 → Sorted l
  | [], _, _ => List.Pairwise.nil
  | y :: l, b, h => by
    obtain ⟨h1, h2, h3, h4⟩ := rowsErr_cons h
    exact List.Pairwise.cons (fun x hx => (rowsErr_mem h4 x hx).1) (rowsErr_sorted h4)
theorem rowsErr_mk {n : Nat} : ∀ {l : List Row} {b : Int}, (∀ x ∈ l, b < x.id ∧ x.vals.length = n ∧ x.vals.all okVal = true) → Sorted l → rowsErr n b l = 0
  | [], _, _, _ => rfl
  | y :: l, b, h, hs => by
    obtain ⟨h1, h2, h3⟩ := h y (by simp)
    unfold Sorted at hs
    rw [List.pairwise_cons] at hs
    simp only [rowsErr]
    rw [if_neg (by omega), if_neg (by omega), if_neg (by simp [h3])]
    exact rowsErr_mk (fun x hx => ⟨hs.1 x hx, (h x (by simp [hx])).2⟩) hs.2
structure TOk (t : Tbl) : Prop where
  nm : isNm t.name = true
  na : t.attrs.length ≤ 16
  nr : t.rows.length ≤ 1000
  nms : nmsOk t.attrs = true
  rs : rowsErr t.attrs.length 0 t.rows = 0
theorem tok_iff {t : Tbl} : tblErr t = 0 ↔ TOk t := by
  constructor
  · intro h
    unfold tblErr at h
    split at h
    · omega
    · split at h
      · omega
      · split at h
        · omega
        · rename_i h1 h2 h3
          exact ⟨by simpa using h1, by omega, by omega, by simpa using h3, h⟩
  · rintro ⟨h1, h2, h3, h4, h5⟩
    unfold tblErr
    rw [if_neg (by simp [h1]), if_neg (by omega), if_neg (by simp [h4]), h5]
theorem okVal_size {v : Val} (h : okVal v = true) : v.str.size ≤ 200 := by
  unfold okVal at h
  have e0 : emp.size = 0 := rfl
  split at h
  · simp only [Bool.and_eq_true, decide_eq_true_eq] at h; rw [h.2]; omega
  · split at h
    · simp only [decide_eq_true_eq] at h; rw [h]; omega
    · split at h
      · simp only [Bool.and_eq_true, decide_eq_true_eq] at h; omega
      · simp only [Bool.and_eq_true, decide_eq_true_eq] at h; rw [h.2]; omega
theorem vals_ok {l : List Val} (h : l.all okVal = true) : valsOk l := by
  intro j hj
  rw [getD_lt l j hj]
  have := okVal_size (List.all_eq_true.1 h _ (List.getElem_mem hj))
  unfold Val.ok
  omega
theorem TOk.ok {t : Tbl} (h : TOk t) : t.ok := by
  refine ⟨by have := h.na; omega, by have := h.nr; omega, fun j hj => ?_⟩
  rw [getD_lt _ j hj]
  obtain ⟨_, h2, h3⟩ := rowsErr_mem h.rs _ (List.getElem_mem hj)
  exact ⟨by have := h.na; omega, vals_ok h3⟩
theorem rowsOk.sub {l l' : List Row} (h : rowsOk l) (hs : ∀ x ∈ l', x ∈ l) : rowsOk l' := by
  intro j hj
  rw [getD_lt _ j hj]
  obtain ⟨k, hk, e⟩ := List.getElem_of_mem (hs _ (List.getElem_mem hj))
  rw [← e, ← getD_lt _ k hk]
  exact h k hk
theorem ok_of_err {t : Tbl} (h : tblErr t = 0) : t.ok := (tok_iff.1 h).ok
def insAt (l : List Row) (k : Nat) (r : Row) : List Row := l.take k ++ r :: l.drop k
theorem insAt_len {l : List Row} {k : Nat} {r : Row} (h : k ≤ l.length) : (insAt l k r).length = l.length + 1 := by simp [insAt]; omega
theorem insAt_k {l : List Row} {k : Nat} {r : Row} (h : k ≤ l.length) : (insAt l k r).getD k default = r := by
  simp [insAt, List.getD, List.getElem?_append, h]
theorem insAt_pred {l : List Row} {k : Nat} {r : Row} (h0 : 0 < k) (h : k ≤ l.length) : (insAt l k r).getD (k - 1) default = l.getD (k - 1) default := by
  simp only [insAt, List.getD]
  rw [List.getElem?_append_left (by simp; omega), List.getElem?_take, if_pos (by omega)]
theorem insAt_end {l : List Row} {r : Row} : insAt l l.length r = l ++ [r] := by simp [insAt]
theorem insAt_get {l : List Row} {k i : Nat} {r : Row} (h : k ≤ l.length) : (insAt l k r)[i]? = if i < k then l[i]? else if i = k then some r else l[i - 1]? := by
  simp only [insAt]
  by_cases h1 : i < k
  · rw [if_pos h1, List.getElem?_append_left (by simp; omega), List.getElem?_take, if_pos h1]
  · rw [if_neg h1, List.getElem?_append_right (by simp; omega), List.length_take, Nat.min_eq_left h]
    by_cases h2 : i = k
    · subst h2; simp
    · rw [if_neg h2]
      obtain ⟨d, rfl⟩ : ∃ d, i = k + 1 + d := ⟨i - k - 1, by omega⟩
      rw [show k + 1 + d - k = d + 1 by omega, List.getElem?_cons_succ, List.getElem?_drop]
      congr 1
      omega
theorem insAt_swap {l : List Row} {k : Nat} {r : Row} (h0 : 0 < k) (h : k ≤ l.length) : ((insAt l k r).set k (l.getD (k - 1) default)).set (k - 1) r = insAt l (k - 1) r := by
  apply List.ext_getElem?
  intro i
  rw [insAt_get (by omega), List.getElem?_set, List.getElem?_set, List.length_set, insAt_len h, insAt_get h]
  by_cases h1 : k - 1 = i
  · subst h1
    rw [if_pos rfl, if_pos (by omega), if_neg (by omega), if_pos rfl]
  · rw [if_neg h1]
    by_cases h2 : k = i
    · subst h2
      rw [if_pos rfl, if_pos (by omega), if_neg (by omega), if_neg (by omega), List.getD, List.getElem?_eq_getElem (by omega)]
      rfl
    · rw [if_neg h2]
      by_cases h3 : i < k
      · rw [if_pos h3, if_pos (by omega)]
      · rw [if_neg h3, if_neg (by omega), if_neg (by omega), if_neg (by omega)]
theorem insAt_insR : ∀ {l : List Row} {k : Nat} {r : Row}, Sorted l → k ≤ l.length → (∀ j, k ≤ j → j < l.length → r.id < (l.getD j default).id) → (k = 0 ∨ ¬ r.id < (l.getD (k - 1) default).id) → insAt l k r = insR r l
  | [], k, r, _, hk, _, _ => by
    obtain rfl : k = 0 := by simpa using hk
    rfl
  | x :: l, 0, r, hs, hk, h1, h2 => by
    have := h1 0 (Nat.le_refl _) (by simp)
    simp only [List.getD_cons_zero] at this
    simp [insAt, insR, this]
  | x :: l, k + 1, r, hs, hk, h1, h2 => by
    have h2 := h2.resolve_left (by omega)
    unfold Sorted at hs
    rw [List.pairwise_cons] at hs
    have hx : ¬ r.id < x.id := by
      cases k with
      | zero => simpa using h2
      | succ k =>
        have hk' : k < l.length := by simp at hk; omega
        simp only [Nat.add_sub_cancel, List.getD_cons_succ] at h2
        have := hs.1 _ (List.getElem_mem hk')
        rw [getD_lt _ _ hk'] at h2
        omega
    have ih := insAt_insR (l := l) (k := k) (r := r) hs.2 (by simpa using hk) (fun j hj hl => by
      have := h1 (j + 1) (by omega) (by simpa using hl)
      simpa using this) (by
      cases k with
      | zero => exact .inl rfl
      | succ k =>
        refine .inr ?_
        simp only [Nat.add_sub_cancel, List.getD_cons_succ] at h2 ⊢
        exact h2)
    simp only [insR, if_neg hx, ← ih]
    simp [insAt]
theorem insR_len {r : Row} : ∀ {l : List Row}, (insR r l).length = l.length + 1
  | [] => rfl
  | x :: l => by
    simp only [insR]
    split
    · simp
    · simp [insR_len (l := l)]
theorem insT_err {t : Tbl} {r : Row} {e : Int} (h : insErr t r = e) (he : e ≠ 0) : insT t r = T0 := by rw [insT, if_neg (by rw [h]; exact he)]
theorem insT_ok {t : Tbl} {r : Row} (h : insErr t r = 0) : insT t r = ⟨t.name, t.attrs, insR r t.rows⟩ := by rw [insT, if_pos h]
theorem delT_err {t : Tbl} {i e : Int} (h : delErr t i = e) (he : e ≠ 0) : delT t i = T0 := by rw [delT, if_neg (by rw [h]; exact he)]
theorem delT_ok {t : Tbl} {i : Int} (h : delErr t i = 0) : delT t i = ⟨t.name, t.attrs, t.rows.eraseIdx (rowIx t.rows i).toNat⟩ := by rw [delT, if_pos h]
theorem chT_err {t : Tbl} {i a e : Int} {v : Val} (h : chErr t i a v = e) (he : e ≠ 0) : chT t i a v = T0 := by rw [chT, if_neg (by rw [h]; exact he)]
theorem chT_ok {t : Tbl} {i a : Int} {v : Val} (h : chErr t i a v = 0) : chT t i a v = ⟨t.name, t.attrs, setC t.rows (rowIx t.rows i).toNat a.toNat v⟩ := by rw [chT, if_pos h]
theorem insErr_0 {t : Tbl} {r : Row} (h : insErr t r = 0) : tblErr t = 0 ∧ r.vals.length = t.attrs.length ∧ 0 < r.id ∧ r.vals.all okVal = true ∧ rowIx t.rows r.id < 0 ∧ t.rows.length < 1000 := by
  unfold insErr at h
  split at h
  · omega
  · split at h
    · omega
    · split at h
      · omega
      · split at h
        · omega
        · split at h
          · omega
          · rename_i h1 h2 h3 h4 h5
            rw [not_or] at h3
            exact ⟨by omega, by omega, by omega, by simpa using h3.2, by omega, by omega⟩
theorem erase_eq {α : Type} {l : List α} {i : Nat} : l.take i ++ l.drop (i + 1) = l.eraseIdx i := (List.eraseIdx_eq_take_drop_succ l i).symm
theorem insAt_lt {l : List Row} {k k' m' : Nat} {r : Row} (h0 : 0 < k) (hk : k ≤ l.length) (h : ((insAt l k r).getD k' default).id < ((insAt l k r).getD m' default).id) (hk' : k' = k) (hm' : m' = k - 1) : r.id < (l.getD (k - 1) default).id := by
  subst hk' hm'
  rwa [insAt_k hk, insAt_pred h0 hk] at h
theorem insAt_nlt {l : List Row} {k k' m' : Nat} {r : Row} (h0 : 0 < k) (hk : k ≤ l.length) (h : ¬ ((insAt l k r).getD k' default).id < ((insAt l k r).getD m' default).id) (hk' : k' = k) (hm' : m' = k - 1) : ¬ r.id < (l.getD (k - 1) default).id := by
  subst hk' hm'
  rwa [insAt_k hk, insAt_pred h0 hk] at h
theorem swap_ins {l : List Row} {k k' m' : Nat} {r : Row} (h0 : 0 < k) (hk : k ≤ l.length) (hk' : k' = k) (hm' : m' = k - 1) {n : Nat} (hn : n = l.length + 1) {e : TypeId} :
    CoO (.arr true 2 e n (setEl (setEl (lf Row.c (insAt l k r)) k' 0 [lf Row.c (insAt l k r) m' 0, lf Row.c (insAt l k r) m' 1]) m' 0 [lf Row.c (insAt l k r) k' 0, lf Row.c (insAt l k r) k' 1])) (.arr true 2 e n (lf Row.c (insAt l (k - 1) r))) := by
  subst hk' hm'
  rw [← insAt_swap h0 hk]
  refine swap_co (fun h => h) (by rw [insAt_len hk]; exact hn) (by rw [insAt_len hk]; omega) (by rw [insAt_len hk]; omega) rfl rfl (lt2 ?_ ?_) (lt2 ?_ ?_)
  · exact CoP.of_eq (by show Row.c ((insAt l k' r).getD (k' - 1) default) 0 = _; rw [insAt_pred h0 hk])
  · exact CoP.of_eq (by show Row.c ((insAt l k' r).getD (k' - 1) default) 1 = _; rw [insAt_pred h0 hk])
  · exact CoP.of_eq (by show Row.c ((insAt l k' r).getD k' default) 0 = _; rw [insAt_k hk])
  · exact CoP.of_eq (by show Row.c ((insAt l k' r).getD k' default) 1 = _; rw [insAt_k hk])
theorem del_co {l : List Row} {a b : Nat} (ha : a ≤ l.length) {f0 : Nat → Nat → PV} {e : TypeId} : CoO (.arr true 2 e (0 + a + (l.length - b)) (appF (0 + a) (appF 0 f0 (lf Row.c l)) (fun i j => lf Row.c l (b + i) j))) (.arr true 2 e (l.take a ++ l.drop b).length (lf Row.c (l.take a ++ l.drop b))) := by
  refine ⟨fun h => h, rfl, rfl, by simp; omega, fun i j hi hj => CoP.of_eq ?_⟩
  unfold appF
  rw [Nat.zero_add]
  simp only [Nat.not_lt_zero, if_false, Nat.sub_zero, lf, List.getD]
  by_cases h : i < a
  · rw [if_pos h, List.getElem?_append_left (by simp; omega), List.getElem?_take, if_pos h]
  · rw [if_neg h, List.getElem?_append_right (by simp; omega), List.getElem?_drop, List.length_take, Nat.min_eq_left ha]
theorem setC_len {l : List Row} {i k : Nat} {v : Val} : (setC l i k v).length = l.length := by simp [setC]
theorem setC_hole {l : List Row} {i0 k k' m : Nat} {v : Val} {ps : List PV} {id : Nat} (hi0 : i0 < l.length) (hm : m = (l.getD i0 default).vals.length) (hk : k < m) (hk' : k' = k) (hp : ps.length = 3) (h : ∀ j, j < 3 → CoP (ps.getD j .any) (v.c j)) :
    ∀ i j, i < l.length → j < 2 → (∃ n, holeF i0 (.ref id m) (lf Row.c l) i j = .ref id n ∧ n = m ∧ CoP (.sl m 3 false (setEl (lf Val.c (l.getD i0 default).vals) k' 0 ps)) (lf Row.c (setC l i0 k v) i j)) ∨ CoH (holeF i0 (.ref id m) (lf Row.c l) i j) (.p (lf Row.c (setC l i0 k v) i j)) := by
  intro i j hi hj
  unfold holeF
  by_cases hii : i = i0
  · subst hii
    rcases j with _ | _ | j
    · rw [if_neg (by omega)]
      refine .inr (CoP.of_eq ?_)
      unfold setC
      rw [lf_set_eq rfl hi]; rfl
    · rw [if_pos ⟨rfl, rfl⟩]
      refine .inl ⟨m, rfl, rfl, ?_⟩
      unfold setC
      rw [lf_set_eq rfl hi]
      refine CoP.sl (by simp [hm]) (.inl rfl) (fun h => h) fun a b ha hb => ?_
      unfold setEl
      by_cases hak : a = k
      · rw [if_pos ⟨by omega, Nat.zero_le _, by omega⟩, lf_set_eq hak (by omega), Nat.sub_zero]; exact h b hb
      · rw [if_neg (by omega), lf_set_ne hak]; exact CoP.refl _
    · omega
  · rw [if_neg (by omega)]
    refine .inr (CoP.of_eq ?_)
    unfold setC
    rw [lf_set_ne hii]
theorem row_at {l : List Row} {id : Int} (h : 0 ≤ rowIx l id) : (max (rowIx l id) 0).toNat < l.length := by
  have := idx_lt (p := fun r : Row => decide (r.id = id)) (l := l)
  unfold rowIx at *
  omega
theorem TOk.width {t : Tbl} (h : TOk t) {i : Nat} (hi : i < t.rows.length) : (t.rows.getD i default).vals.length = t.attrs.length := by
  rw [getD_lt _ _ hi]
  exact (rowsErr_mem h.rs _ (List.getElem_mem hi)).2.1
theorem tbl_at {d : DB} {s : ByteArray} (h : ¬ tblIx d s < 0) : (tblIx d s).toNat < d.length := by
  have := idx_lt (p := fun t : Tbl => decide (t.name = s)) (l := d)
  unfold tblIx at *
  omega
theorem dbV.at {d : DB} (h : dbV d) {s : ByteArray} (hs : ¬ tblIx d s < 0) : TOk (tblAt d s) := tok_iff.1 (h.2 _ (tbl_at hs))
theorem row_id {l : List Row} {id : Int} (h : 0 ≤ rowIx l id) : (l.getD (max (rowIx l id) 0).toNat default).id = id := by
  have := (idx_spec (p := fun r : Row => decide (r.id = id)) (l := l) h).2
  simp only [decide_eq_true_eq] at this
  unfold rowIx at *
  rw [show (max (idx (fun r : Row => decide (r.id = id)) l) 0).toNat = (idx (fun r : Row => decide (r.id = id)) l).toNat from by omega]
  exact this
theorem row_same {l : List Row} {r : Row} (h : 0 ≤ rowIx l r.id) : l.getD (max (rowIx l r.id) 0).toNat default = r ↔ (l.getD (max (rowIx l r.id) 0).toNat default).vals = r.vals := by
  rw [Row.eq_iff]
  exact ⟨fun e => e.2, fun e => ⟨row_id h, e⟩⟩
theorem crErr_0 {d : DB} {t : Tbl} (h : crErr d t = 0) : tblErr t = 0 ∧ tblIx d t.name < 0 ∧ d.length < 50 := by
  unfold crErr at h
  split at h
  · omega
  · split at h
    · omega
    · split at h
      · omega
      · exact ⟨by omega, by omega, by omega⟩
theorem app_ins {l : List Row} {r : Row} {g : Nat → Nat → PV} {e : TypeId} (hg : ∀ j, j < 2 → CoP (g 0 j) (r.c j)) : CoO (.arr true 2 e (l.length + 1) (appF l.length (lf Row.c l) g)) (.arr true 2 e (l.length + 1) (lf Row.c (insAt l l.length r))) := by
  rw [insAt_end]
  have := co_app (wr := true) (wr' := true) (s := 2) (e := e) (c := Row.c) (l := l) (g := g) [r] (fun h => h) (m := 1) rfl (fun i j hi hj => by
    obtain rfl : i = 0 := by simpa using hi
    exact hg j hj)
  simpa using this
end Go.Hx
end
