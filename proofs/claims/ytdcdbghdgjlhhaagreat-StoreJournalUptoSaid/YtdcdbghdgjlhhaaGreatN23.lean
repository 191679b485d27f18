/- A part of the proof: lemmas for the theorem of this claim, merged by a program of ours out of W13, Sp6, W14. -/
import Derived.Test.YtdcdbghdgjlhhaaGreatN22
set_option linter.all false
section
namespace Go.Hx
open Go.Proofs
set_option maxRecDepth 100000
theorem good41 : goodFn Tryz.prog 41 := ⟨Tryz.f41, Tryz.func41, by kernel_rfl, by kernel_rfl⟩
theorem c41 (s : Stt) (x : Opn) (hs : StOk s) (hx : OpOk x) : HPure Tryz.prog 41 [s.pc, x.pc] (prOf [(chOp s x).pc, pI (chOpE s x)]) := by
  refine hpure_of (nt := 108) Tryzok Tryz.func41 rfl rfl (Nat.le_of_ble_eq_true rfl) ?_
  have hV := hs.V
  have hlv := hx.lv
  have hlr := hx.lr
  refine hw_seq ?_; refine hw_region (E := TryzE) Tryzok ?_; refine rm 0 rfl rfl rfl rfl rfl rfl ?_; refine rm 1 rfl rfl rfl rfl rfl rfl ?_; refine rm 2 rfl rfl rfl rfl rfl rfl ?_; refine rq rfl rfl rfl rfl rfl ?_; refine rg_nil ?_
  show HW _ _ _ _ _; refine hw_seq ?_; refine hw_region (E := TryzE) Tryzok ?_; refine rq rfl rfl rfl rfl rfl ?_; refine rc rfl rfl rfl rfl rfl rfl good50 (c50 s hs.ld hs.ln hs.ok) (CoL.refl _) rfl rfl ?_
  refine rm 3 rfl rfl rfl rfl rfl rfl ?_; refine rs rfl rfl rfl rfl rfl ?_; refine rg_nil ?_; show HW _ _ _ _ _; (iterate 2 refine hw_seq ?_); refine hw_region (E := TryzE) Tryzok ?_; (iterate 4 refine rq rfl rfl rfl rfl rfl ?_)
  refine rg_nil ?_; show HW _ _ _ _ _; refine hw_cond _ rfl (fun r0 => ?_) (fun r0 => ?_)
  · skip
    have h0 := r0
    have h0 := of_decide_eq_true h0
    try simp only [Int.toNat_natCast] at h0
    refine hw_seq ?_; refine hw_draw (E := TryzE) Tryzok Tryzmixed [0, 1, 2, 3, 4, 5, 6, 7, 8, 9, 10] ?_; refine rq rfl rfl rfl rfl rfl ?_; refine rc rfl rfl rfl rfl rfl rfl good35 (c35 _) (CoL.refl _) rfl rfl ?_
    refine rq rfl rfl rfl rfl rfl ?_; refine rc rfl rfl rfl rfl rfl rfl good30 (c30 x hlr) (CoL.refl _) rfl rfl ?_; (iterate 3 refine rq rfl rfl rfl rfl rfl ?_)
    refine rc rfl rfl rfl rfl rfl rfl good30 (c30 x hlr) (CoL.refl _) rfl rfl ?_; refine rc rfl rfl rfl rfl rfl rfl good59 (c59 _ _) (CoL.refl _) rfl rfl ?_; refine rs rfl rfl rfl rfl rfl ?_; refine rq rfl rfl rfl rfl rfl ?_
    refine rg_nil ?_; refine ⟨by kernel_rfl, ?_⟩; show HW _ _ _ _ _; refine hw_ret ?_; refine ⟨.inr rfl, ?_⟩
    have hc := chOp0 (s := s) (x := x) (by omega)
    rw [hc.1, hc.2]
    exact ⟨_, _, _, _, rfl, (by (repeat' apply And.intro) <;> first | trivial | exact Nat.le_of_ble_eq_true rfl | rfl), rfl, (by (repeat' apply And.intro) <;> first | trivial | exact Nat.le_of_ble_eq_true rfl | rfl), ⟨CoC.agg ⟨CoP.refl _, CoP.refl _, CoP.refl _, CoP.refl _, CoP.refl _, CoP.refl _, co_nil, CoP.refl _, CoP.refl _, CoP.refl _, CoP.refl _, trivial⟩, CoC.refl _, trivial⟩⟩
  · skip
    have h0 := r0
    have h0 := of_decide_eq_false h0
    try simp only [Int.toNat_natCast] at h0
    refine hw_skip ?_; show HW _ _ _ _ _; refine hw_seq ?_; refine hw_draw (E := TryzE) Tryzok Tryzmixed [0, 1, 2, 3, 4] ?_; (iterate 2 refine rq rfl rfl rfl rfl rfl ?_)
    refine rc rfl rfl rfl rfl rfl rfl good35 (c35 _) (CoL.refl _) rfl rfl ?_; refine rc rfl rfl rfl rfl rfl rfl good60 (c60 _ _) (CoL.refl _) rfl rfl ?_; refine rq rfl rfl rfl rfl rfl ?_; refine rg_nil ?_; refine ⟨by kernel_rfl, ?_⟩
    show HW _ _ _ _ _; (iterate 2 refine hw_seq ?_); refine hw_region (E := TryzE) Tryzok ?_; (iterate 2 refine rq rfl rfl rfl rfl rfl ?_); refine rg_nil ?_; show HW _ _ _ _ _; refine hw_cond _ rfl (fun r1 => ?_) (fun r1 => ?_)
    · skip
      have h1 := r1
      have h1 := of_decide_eq_true h1
      try simp only [Int.toNat_natCast] at h1
      refine hw_seq ?_; refine hw_region (E := TryzE) Tryzok ?_; refine rq rfl rfl rfl rfl rfl ?_; refine rs rfl rfl rfl rfl rfl ?_; refine rq rfl rfl rfl rfl rfl ?_; refine rg_nil ?_; show HW _ _ _ _ _; refine hw_ret ?_
      refine ⟨.inr rfl, ?_⟩
      have hc := chOpn (s := s) (x := x) (by omega) (by assumption)
      rw [hc.1, hc.2]
      exact ⟨_, _, _, _, rfl, (by (repeat' apply And.intro) <;> first | trivial | exact Nat.le_of_ble_eq_true rfl | rfl), rfl, (by (repeat' apply And.intro) <;> first | trivial | exact Nat.le_of_ble_eq_true rfl | rfl), ⟨CoC.agg ⟨CoP.refl _, CoP.refl _, CoP.refl _, co_nil, co_nil, CoP.refl _, co_nil, CoP.refl _, CoP.refl _, CoP.refl _, CoP.refl _, trivial⟩, CoC.refl _, trivial⟩⟩
    · skip
      have h1 := r1
      have h1 := of_decide_eq_false h1
      try simp only [Int.toNat_natCast] at h1
      have hix : ¬ tblIx (dbOf s) (nmOf x) < 0 := h1
      have htb := tbl_at hix
      refine hw_skip ?_; show HW _ _ _ _ _; refine hw_seq ?_; refine hw_region (E := TryzE) Tryzok ?_; (iterate 5 refine rq rfl rfl rfl rfl rfl ?_); refine rm 4 rfl rfl rfl rfl rfl rfl ?_; refine rs rfl rfl rfl rfl rfl ?_
      refine rg_nil ?_; show HW _ _ _ _ _; (iterate 2 refine hw_seq ?_); refine hw_region (E := TryzE) Tryzok ?_; (iterate 4 refine rq rfl rfl rfl rfl rfl ?_); refine rg_nil ?_; show HW _ _ _ _ _
      refine hw_cond _ rfl (fun r2 => ?_) (fun r2 => ?_)
      · skip
        have h2 := r2
        have h2 := of_decide_eq_true h2
        try simp only [Int.toNat_natCast] at h2
        refine hw_seq ?_; refine hw_draw (E := TryzE) Tryzok Tryzmixed [0, 1, 2, 3, 4, 5, 6, 7, 8, 9] ?_; (iterate 2 refine rq rfl rfl rfl rfl rfl ?_); refine rc rfl rfl rfl rfl rfl rfl good33 (c33 x hlv) (CoL.refl _) rfl rfl ?_
        refine rc rfl rfl rfl rfl rfl rfl good61 (c61 (tblAt (dbOf s) (nmOf x)) (rowOf x)) (CoL.refl _) rfl rfl ?_; (iterate 3 refine rq rfl rfl rfl rfl rfl ?_); refine rm 5 rfl rfl rfl rfl rfl rfl ?_
        refine rs rfl rfl rfl rfl rfl ?_; refine rq rfl rfl rfl rfl rfl ?_; refine rg_nil ?_; refine ⟨by kernel_rfl, ?_⟩; show HW _ _ _ _ _; refine hw_seq ?_; refine hw_draw (E := TryzE) Tryzok Tryzmixed [0, 1, 2, 3, 4, 5, 6, 7] ?_
        (iterate 3 refine rq rfl rfl rfl rfl rfl ?_); refine rc rfl rfl rfl rfl rfl rfl good33 (c33 x hlv) (CoL.refl _) rfl rfl ?_; (iterate 2 refine rq rfl rfl rfl rfl rfl ?_); refine rs rfl rfl rfl rfl rfl ?_
        refine rq rfl rfl rfl rfl rfl ?_; refine rg_nil ?_; refine ⟨by kernel_rfl, ?_⟩; show HW _ _ _ _ _; refine hw_ret ?_; refine ⟨.inr rfl, ?_⟩
        have hc := chOp1 (s := s) (x := x) (by omega) hix
        rw [hc.1, hc.2]
        exact ⟨_, _, _, _, rfl, (by (repeat' apply And.intro) <;> first | trivial | exact Nat.le_of_ble_eq_true rfl | rfl), rfl, (by (repeat' apply And.intro) <;> first | trivial | exact Nat.le_of_ble_eq_true rfl | rfl), ⟨CoC.agg ⟨CoP.refl _, CoP.refl _, CoP.refl _, co_nil, co_nil, CoP.refl _, CoP.refl _, CoP.refl _, CoP.refl _, CoP.refl _, CoP.refl _, trivial⟩, CoC.refl _, trivial⟩⟩
      · skip
        have h2 := r2
        have h2 := of_decide_eq_false h2
        try simp only [Int.toNat_natCast] at h2
        refine hw_skip ?_; show HW _ _ _ _ _; refine hw_seq ?_; refine hw_region (E := TryzE) Tryzok ?_; (iterate 3 refine rq rfl rfl rfl rfl rfl ?_)
        refine rc rfl rfl rfl rfl rfl rfl good62 (c62 (tblAt (dbOf s) (nmOf x)) x.id) (CoL.refl _) rfl rfl ?_; (iterate 5 refine rq rfl rfl rfl rfl rfl ?_); refine rg_nil ?_; show HW _ _ _ _ _; (iterate 2 refine hw_seq ?_)
        refine hw_region (E := TryzE) Tryzok ?_; (iterate 2 refine rq rfl rfl rfl rfl rfl ?_); refine rg_nil ?_; show HW _ _ _ _ _; refine hw_cond _ rfl (fun r3 => ?_) (fun r3 => ?_)
        · skip
          have h3 := r3
          have h3 := not_t h3
          have hfd : ¬ 0 ≤ rowIx (tblAt (dbOf s) (nmOf x)).rows x.id := of_decide_eq_false h3
          refine hw_seq ?_; refine hw_region (E := TryzE) Tryzok ?_; refine rq rfl rfl rfl rfl rfl ?_; refine rs rfl rfl rfl rfl rfl ?_; refine rq rfl rfl rfl rfl rfl ?_; refine rg_nil ?_; show HW _ _ _ _ _; refine hw_ret ?_
          refine ⟨.inr rfl, ?_⟩
          have hc := chOpf (s := s) (x := x) (by omega) (by omega) hix hfd
          rw [hc.1, hc.2]
          exact ⟨_, _, _, _, rfl, (by (repeat' apply And.intro) <;> first | trivial | exact Nat.le_of_ble_eq_true rfl | rfl), rfl, (by (repeat' apply And.intro) <;> first | trivial | exact Nat.le_of_ble_eq_true rfl | rfl), ⟨CoC.agg ⟨CoP.refl _, CoP.refl _, CoP.refl _, co_nil, co_nil, CoP.refl _, co_nil, CoP.refl _, CoP.refl _, CoP.refl _, CoP.refl _, trivial⟩, CoC.refl _, trivial⟩⟩
        · skip
          have h3 := r3
          have h3 := not_f h3
          have hfd : 0 ≤ rowIx (tblAt (dbOf s) (nmOf x)).rows x.id := of_decide_eq_true h3
          have hra := row_at hfd
          have hra2 : max (rowIx (tblAt (dbOf s) (nmOf x)).rows x.id) 0 < (((dbOf s).getD (tblIx (dbOf s) (nmOf x)).toNat default).rows.length : Int) := (by show _ < ((tblAt (dbOf s) (nmOf x)).rows.length : Int); omega)
          refine hw_skip ?_; show HW _ _ _ _ _; (iterate 2 refine hw_seq ?_); refine hw_region (E := TryzE) Tryzok ?_; (iterate 4 refine rq rfl rfl rfl rfl rfl ?_); refine rg_nil ?_; show HW _ _ _ _ _
          refine hw_cond _ rfl (fun r4 => ?_) (fun r4 => ?_)
          · skip
            have h4 := r4
            have h4 := of_decide_eq_true h4
            try simp only [Int.toNat_natCast] at h4
            refine hw_seq ?_; refine hw_draw (E := TryzE) Tryzok Tryzmixed [0, 1, 2, 3, 4, 5, 6, 7, 8, 9] ?_; (iterate 8 refine rq rfl rfl rfl rfl rfl ?_); refine rs rfl rfl rfl rfl rfl ?_; refine rq rfl rfl rfl rfl rfl ?_
            refine rg_nil ?_; refine ⟨by kernel_rfl, ?_⟩; show HW _ _ _ _ _; refine hw_ret ?_; refine ⟨.inr rfl, ?_⟩
            have hc := chOp2 (s := s) (x := x) (by omega) hix hfd
            rw [hc.1, hc.2]
            exact ⟨_, _, _, _, rfl, (by (repeat' apply And.intro) <;> first | trivial | exact Nat.le_of_ble_eq_true rfl | rfl), rfl, (by (repeat' apply And.intro) <;> first | trivial | exact Nat.le_of_ble_eq_true rfl | rfl), ⟨CoC.agg ⟨CoP.refl _, CoP.refl _, CoP.refl _, co_nil, co_nil, CoP.refl _, CoP.refl _, CoP.refl _, CoP.refl _, CoP.refl _, CoP.refl _, trivial⟩, CoC.refl _, trivial⟩⟩
          · skip
            have h4 := r4
            have h4 := of_decide_eq_false h4
            try simp only [Int.toNat_natCast] at h4
            refine hw_skip ?_; show HW _ _ _ _ _; refine hw_seq ?_; refine hw_draw (E := TryzE) Tryzok Tryzmixed [0, 1, 2, 3, 4, 5, 6, 7, 8, 9, 10, 11, 12, 13, 14, 15] ?_; (iterate 8 refine rq rfl rfl rfl rfl rfl ?_)
            refine rc rfl rfl rfl rfl rfl rfl good49 (c49 _ (Int.natCast_nonneg _)) (CoL.refl _) rfl rfl ?_; refine rc rfl rfl rfl rfl rfl rfl good63 (c63 (tblAt (dbOf s) (nmOf x)) x.id x.attr (ofV x.value)) (CoL.refl _) rfl rfl ?_
            (iterate 3 refine rq rfl rfl rfl rfl rfl ?_); refine rm 6 rfl rfl rfl rfl rfl rfl ?_; refine rs rfl rfl rfl rfl rfl ?_; refine rq rfl rfl rfl rfl rfl ?_; refine rg_nil ?_; refine ⟨by kernel_rfl, ?_⟩; show HW _ _ _ _ _
            refine hw_seq ?_; refine hw_draw (E := TryzE) Tryzok Tryzmixed [0, 1, 2, 3, 4, 5, 6, 7, 8, 9, 10, 11, 12, 13, 14, 15] ?_; (iterate 11 refine rq rfl rfl rfl rfl rfl ?_)
            refine rc rfl rfl rfl rfl rfl rfl good49 (c49 _ (Int.natCast_nonneg _)) (CoL.refl _) rfl rfl ?_; (iterate 2 refine rq rfl rfl rfl rfl rfl ?_); refine rs rfl rfl rfl rfl rfl ?_; refine rq rfl rfl rfl rfl rfl ?_
            refine rg_nil ?_; refine ⟨by kernel_rfl, ?_⟩; show HW _ _ _ _ _; refine hw_ret ?_; refine ⟨.inr rfl, ?_⟩
            have hc := chOp3 (s := s) (x := x) (by omega) (by omega) (by omega) hix hfd
            rw [hc.1, hc.2]
            exact ⟨_, _, _, _, rfl, (by (repeat' apply And.intro) <;> first | trivial | exact Nat.le_of_ble_eq_true rfl | rfl), rfl, (by (repeat' apply And.intro) <;> first | trivial | exact Nat.le_of_ble_eq_true rfl | rfl), ⟨CoC.agg ⟨CoP.refl _, CoP.refl _, CoP.refl _, co_nil, co_nil, CoP.refl _, CoP.refl _, CoP.refl _, CoP.refl _, CoP.refl _, CoP.refl _, trivial⟩, CoC.refl _, trivial⟩⟩
end Go.Hx
end
section
set_option maxHeartbeats 400000
namespace Go.Hx
theorem chOp_k4 {s : Stt} {x : Opn} (hs : StOk s) (h : chOpE s x = 0) (h4 : (chOp s x).kind = 4) : 0 ≤ (chOp s x).attr ∧ (chOp s x).attr < ((chOp s x).row.vals.length : Int) := by
  by_cases k0 : x.kind.toNat % 9 = 0
  · rw [(chOp0 k0).1] at h4; exact absurd h4 (by simp)
  by_cases hi : tblIx (dbOf s) (nmOf x) < 0
  · rw [(chOpn k0 hi).2] at h; omega
  by_cases k1 : x.kind.toNat % 9 = 1
  · rw [(chOp1 k1 hi).1] at h4; exact absurd h4 (by simp)
  by_cases hr : 0 ≤ rowIx (tblAt (dbOf s) (nmOf x)).rows x.id
  case neg => rw [(chOpf k0 k1 hi hr).2] at h; omega
  by_cases k2 : x.kind.toNat % 9 = 2
  · rw [(chOp2 k2 hi hr).1] at h4; exact absurd h4 (by simp)
  obtain ⟨e1, e2⟩ := chOp3 (s := s) (x := x) k0 k1 k2 hi hr
  rw [e2] at h
  rw [e1]
  obtain ⟨_, _, ha, hb, _⟩ := chErr_0 h
  refine ⟨ha, ?_⟩
  show _ < (((tblAt (dbOf s) (nmOf x)).rows.getD _ default).vals.length : Int)
  rw [(hs.V.at hi).width (row_at hr)]
  exact hb
def chSame (c : Chg) : Bool := decide (c.kind = 4) && decide (c.row.vals.getD c.attr.toNat default = c.value)
def doE (s : Stt) (x : Opn) : Int :=
  let k := x.kind.toNat % 9
  if k = 4 then (if s.opn = true then 16 else 0)
  else if k = 5 ∨ k = 6 then (if s.opn = true then 0 else 16)
  else if k = 7 then (if s.opn = true ∨ s.done.length = 0 then 16 else 0)
  else if k = 8 then (if s.opn = true ∨ s.undone.length = 0 then 16 else 0)
  else chOpE s x
def doS (s : Stt) (x : Opn) : Stt :=
  let k := x.kind.toNat % 9
  if doE s x ≠ 0 then s
  else if k = 4 then { s with opn := true }
  else if k = 5 then comS { s with opn := false, now := [] } s.now
  else if k = 6 then { s with opn := false, now := [] }
  else if k = 7 then ⟨s.done.take (s.done.length - 1), s.undone ++ [s.done.getD (s.done.length - 1) default], false, []⟩
  else if k = 8 then ⟨s.done ++ [s.undone.getD (s.undone.length - 1) default], s.undone.take (s.undone.length - 1), false, []⟩
  else if chSame (chOp s x) = true then s
  else putS s (chOp s x)
theorem do4o {s : Stt} {x : Opn} (hk : x.kind.toNat % 9 = 4) (h : s.opn = true) : doS s x = s ∧ doE s x = 16 := by
  have he : doE s x = 16 := by unfold doE; simp only [hk]; simp [h]
  exact ⟨by unfold doS; simp only [hk, he]; simp, he⟩
theorem do4 {s : Stt} {x : Opn} (hk : x.kind.toNat % 9 = 4) (h : s.opn = false) : doS s x = { s with opn := true } ∧ doE s x = 0 := by
  have he : doE s x = 0 := by unfold doE; simp only [hk]; simp [h]
  exact ⟨by unfold doS; simp only [hk, he]; simp, he⟩
theorem do5o {s : Stt} {x : Opn} (hk : x.kind.toNat % 9 = 5) (h : s.opn = false) : doS s x = s ∧ doE s x = 16 := by
  have he : doE s x = 16 := by unfold doE; simp only [hk]; simp [h]
  exact ⟨by unfold doS; simp only [hk, he]; simp, he⟩
theorem do5 {s : Stt} {x : Opn} (hk : x.kind.toNat % 9 = 5) (h : s.opn = true) : doS s x = comS { s with opn := false, now := [] } s.now ∧ doE s x = 0 := by
  have he : doE s x = 0 := by unfold doE; simp only [hk]; simp [h]
  exact ⟨by unfold doS; simp only [hk, he]; simp, he⟩
theorem do6o {s : Stt} {x : Opn} (hk : x.kind.toNat % 9 = 6) (h : s.opn = false) : doS s x = s ∧ doE s x = 16 := by
  have he : doE s x = 16 := by unfold doE; simp only [hk]; simp [h]
  exact ⟨by unfold doS; simp only [hk, he]; simp, he⟩
theorem do6 {s : Stt} {x : Opn} (hk : x.kind.toNat % 9 = 6) (h : s.opn = true) : doS s x = { s with opn := false, now := [] } ∧ doE s x = 0 := by
  have he : doE s x = 0 := by unfold doE; simp only [hk]; simp [h]
  exact ⟨by unfold doS; simp only [hk, he]; simp, he⟩
theorem do7o {s : Stt} {x : Opn} (hk : x.kind.toNat % 9 = 7) (h : s.opn = true ∨ s.done.length = 0) : doS s x = s ∧ doE s x = 16 := by
  have he : doE s x = 16 := by unfold doE; simp only [hk]; exact if_pos h
  exact ⟨by unfold doS; simp only [hk, he]; simp, he⟩
theorem do7 {s : Stt} {x : Opn} (hk : x.kind.toNat % 9 = 7) (h : ¬ (s.opn = true ∨ s.done.length = 0)) : doS s x = ⟨s.done.take (s.done.length - 1), s.undone ++ [s.done.getD (s.done.length - 1) default], false, []⟩ ∧ doE s x = 0 := by
  have he : doE s x = 0 := by unfold doE; simp only [hk]; exact if_neg h
  exact ⟨by unfold doS; simp only [hk, he]; simp, he⟩
theorem do8o {s : Stt} {x : Opn} (hk : x.kind.toNat % 9 = 8) (h : s.opn = true ∨ s.undone.length = 0) : doS s x = s ∧ doE s x = 16 := by
  have he : doE s x = 16 := by unfold doE; simp only [hk]; exact if_pos h
  exact ⟨by unfold doS; simp only [hk, he]; simp, he⟩
theorem do8 {s : Stt} {x : Opn} (hk : x.kind.toNat % 9 = 8) (h : ¬ (s.opn = true ∨ s.undone.length = 0)) : doS s x = ⟨s.done ++ [s.undone.getD (s.undone.length - 1) default], s.undone.take (s.undone.length - 1), false, []⟩ ∧ doE s x = 0 := by
  have he : doE s x = 0 := by unfold doE; simp only [hk]; exact if_neg h
  exact ⟨by unfold doS; simp only [hk, he]; simp, he⟩
theorem doEc {s : Stt} {x : Opn} (h4 : ¬ x.kind.toNat % 9 = 4) (h5 : ¬ x.kind.toNat % 9 = 5) (h6 : ¬ x.kind.toNat % 9 = 6) (h7 : ¬ x.kind.toNat % 9 = 7) (h8 : ¬ x.kind.toNat % 9 = 8) : doE s x = chOpE s x := by simp [doE, h4, h5, h6, h7, h8]
theorem doc {s : Stt} {x : Opn} (h4 : ¬ x.kind.toNat % 9 = 4) (h5 : ¬ x.kind.toNat % 9 = 5) (h6 : ¬ x.kind.toNat % 9 = 6) (h7 : ¬ x.kind.toNat % 9 = 7) (h8 : ¬ x.kind.toNat % 9 = 8) (he : ¬ chOpE s x = 0) : doS s x = s ∧ doE s x = chOpE s x := ⟨by simp [doS, doEc h4 h5 h6 h7 h8, he], doEc h4 h5 h6 h7 h8⟩
theorem docs {s : Stt} {x : Opn} (h4 : ¬ x.kind.toNat % 9 = 4) (h5 : ¬ x.kind.toNat % 9 = 5) (h6 : ¬ x.kind.toNat % 9 = 6) (h7 : ¬ x.kind.toNat % 9 = 7) (h8 : ¬ x.kind.toNat % 9 = 8) (he : chOpE s x = 0) (hs : chSame (chOp s x) = true) : doS s x = s ∧ doE s x = 0 := ⟨by simp [doS, doEc h4 h5 h6 h7 h8, h4, h5, h6, h7, h8, he, hs], by rw [doEc h4 h5 h6 h7 h8, he]⟩
theorem docp {s : Stt} {x : Opn} (h4 : ¬ x.kind.toNat % 9 = 4) (h5 : ¬ x.kind.toNat % 9 = 5) (h6 : ¬ x.kind.toNat % 9 = 6) (h7 : ¬ x.kind.toNat % 9 = 7) (h8 : ¬ x.kind.toNat % 9 = 8) (he : chOpE s x = 0) (hs : chSame (chOp s x) = false) : doS s x = putS s (chOp s x) ∧ doE s x = 0 := ⟨by simp [doS, doEc h4 h5 h6 h7 h8, h4, h5, h6, h7, h8, he, hs], by rw [doEc h4 h5 h6 h7 h8, he]⟩
theorem co_takeI {α : Type} [Inhabited α] {s n k' : Nat} {k : Int} {cl : Bool} {c : α → Nat → PV} {l : List α} (h : k.toNat = k') (hk : k' ≤ l.length) :
    CoP (.sl (less (upTo n (some k)) none) s cl (from_ (lf c l) none)) (psl s c (l.take k')) := by
  subst h; exact co_take hk
end Go.Hx
end
section
namespace Go.Hx
open Go.Proofs
set_option maxRecDepth 100000
theorem good11 : goodFn Tryz.prog 11 := ⟨Tryz.f11, Tryz.func11, by kernel_rfl, by kernel_rfl⟩
theorem c11 (s : Stt) (x : Opn) (hs : StOk s) (hx : OpOk x) : HPure Tryz.prog 11 [s.pc, x.pc] (prOf [(doS s x).pc, pI (doE s x)]) := by
  refine hpure_of (nt := 131) Tryzok Tryz.func11 rfl rfl (Nat.le_of_ble_eq_true rfl) ?_
  have hV := hs.V
  have hlt := hs.lt
  have hlu := hs.lu
  have hln := hs.ln
  refine hw_seq ?_; refine hw_region (E := TryzE) Tryzok ?_; refine rm 0 rfl rfl rfl rfl rfl rfl ?_; refine rm 1 rfl rfl rfl rfl rfl rfl ?_; refine rm 2 rfl rfl rfl rfl rfl rfl ?_; refine rq rfl rfl rfl rfl rfl ?_; refine rg_nil ?_
  show HW _ _ _ _ _; refine hw_seq ?_; refine hw_draw (E := TryzE) Tryzok Tryzmixed [0, 1, 2, 3, 4, 5, 6, 7] ?_; (iterate 8 refine rq rfl rfl rfl rfl rfl ?_); refine rg_nil ?_; refine ⟨by kernel_rfl, ?_⟩; show HW _ _ _ _ _
  (iterate 2 refine hw_seq ?_); refine hw_region (E := TryzE) Tryzok ?_; (iterate 3 refine rq rfl rfl rfl rfl rfl ?_); refine rg_nil ?_; show HW _ _ _ _ _; refine hw_block ?_; refine hw_seq ?_
  refine hw_region (E := TryzE) Tryzok ?_; (iterate 2 refine rq rfl rfl rfl rfl rfl ?_); refine rg_nil ?_; show HW _ _ _ _ _; refine hw_cond _ rfl (fun r0 => ?_) (fun r0 => ?_)
  · skip
    have h0 := r0
    have h0 := of_decide_eq_true h0
    try simp only [Int.toNat_natCast] at h0
    (iterate 2 refine hw_seq ?_); refine hw_region (E := TryzE) Tryzok ?_; (iterate 2 refine rq rfl rfl rfl rfl rfl ?_); refine rg_nil ?_; show HW _ _ _ _ _; refine hw_cond _ rfl (fun r1 => ?_) (fun r1 => ?_)
    · skip
      have h1 := r1
      refine hw_seq ?_; refine hw_region (E := TryzE) Tryzok ?_; refine rq rfl rfl rfl rfl rfl ?_; refine rs rfl rfl rfl rfl rfl ?_; refine rq rfl rfl rfl rfl rfl ?_; refine rg_nil ?_; show HW _ _ _ _ _; refine hw_ret ?_
      refine ⟨.inr rfl, ?_⟩
      have hd := do4o (s := s) (x := x) (by omega) (by assumption)
      rw [hd.1, hd.2]
      exact ⟨_, _, _, _, rfl, (by (repeat' apply And.intro) <;> first | trivial | exact Nat.le_of_ble_eq_true rfl | rfl), rfl, (by (repeat' apply And.intro) <;> first | trivial | exact Nat.le_of_ble_eq_true rfl | rfl), ⟨CoC.refl _, CoC.refl _, trivial⟩⟩
    · skip
      have h1 := r1
      refine hw_skip ?_; show HW _ _ _ _ _; refine hw_region (E := TryzE) Tryzok ?_; refine rq rfl rfl rfl rfl rfl ?_; refine rs rfl rfl rfl rfl rfl ?_; refine rg_nil ?_; show HW _ _ _ _ _; refine hw_seq ?_
      refine hw_region (E := TryzE) Tryzok ?_; refine rq rfl rfl rfl rfl rfl ?_; refine rs rfl rfl rfl rfl rfl ?_; refine rq rfl rfl rfl rfl rfl ?_; refine rg_nil ?_; show HW _ _ _ _ _; refine hw_ret ?_; refine ⟨.inr rfl, ?_⟩
      first | have hd := do4 (s := s) (x := x) (by omega) (by assumption) | have hd := do6 (s := s) (x := x) (by omega) (by simp_all)
      rw [hd.1, hd.2]
      first | exact ⟨_, _, _, _, rfl, (by (repeat' apply And.intro) <;> first | trivial | exact Nat.le_of_ble_eq_true rfl | rfl), rfl, (by (repeat' apply And.intro) <;> first | trivial | exact Nat.le_of_ble_eq_true rfl | rfl), ⟨CoC.refl _, CoC.refl _, trivial⟩⟩ | exact ⟨_, _, _, _, rfl, (by (repeat' apply And.intro) <;> first | trivial | exact Nat.le_of_ble_eq_true rfl | rfl), rfl, (by (repeat' apply And.intro) <;> first | trivial | exact Nat.le_of_ble_eq_true rfl | rfl), ⟨CoC.agg ⟨CoP.refl _, CoP.refl _, CoP.refl _, co_nil, trivial⟩, CoC.refl _, trivial⟩⟩
  · skip
    have h0 := r0
    have h0 := of_decide_eq_false h0
    try simp only [Int.toNat_natCast] at h0
    refine hw_seq ?_; refine hw_region (E := TryzE) Tryzok ?_; (iterate 2 refine rq rfl rfl rfl rfl rfl ?_); refine rg_nil ?_; show HW _ _ _ _ _; refine hw_cond _ rfl (fun r2 => ?_) (fun r2 => ?_)
    · skip
      have h2 := r2
      have h2 := of_decide_eq_true h2
      try simp only [Int.toNat_natCast] at h2
      (iterate 2 refine hw_seq ?_); refine hw_region (E := TryzE) Tryzok ?_; (iterate 3 refine rq rfl rfl rfl rfl rfl ?_); refine rg_nil ?_; show HW _ _ _ _ _; refine hw_cond _ rfl (fun r3 => ?_) (fun r3 => ?_)
      · skip
        have h3 := r3
        have h3 := not_t h3
        refine hw_seq ?_; refine hw_region (E := TryzE) Tryzok ?_; refine rq rfl rfl rfl rfl rfl ?_; refine rs rfl rfl rfl rfl rfl ?_; refine rq rfl rfl rfl rfl rfl ?_; refine rg_nil ?_; show HW _ _ _ _ _; refine hw_ret ?_
        refine ⟨.inr rfl, ?_⟩
        have hd := do5o (s := s) (x := x) (by omega) (by simp_all)
        rw [hd.1, hd.2]
        exact ⟨_, _, _, _, rfl, (by (repeat' apply And.intro) <;> first | trivial | exact Nat.le_of_ble_eq_true rfl | rfl), rfl, (by (repeat' apply And.intro) <;> first | trivial | exact Nat.le_of_ble_eq_true rfl | rfl), ⟨CoC.refl _, CoC.refl _, trivial⟩⟩
      · skip
        have h3 := r3
        have h3 := not_f h3
        refine hw_skip ?_; show HW _ _ _ _ _; refine hw_seq ?_; refine hw_region (E := TryzE) Tryzok ?_; (iterate 3 refine rq rfl rfl rfl rfl rfl ?_); refine rg_nil ?_; show HW _ _ _ _ _; refine hw_seq ?_
        refine hw_region (E := TryzE) Tryzok ?_; refine rq rfl rfl rfl rfl rfl ?_; refine rs rfl rfl rfl rfl rfl ?_; refine rq rfl rfl rfl rfl rfl ?_; refine rs rfl rfl rfl rfl rfl ?_; refine rg_nil ?_; show HW _ _ _ _ _
        refine hw_seq ?_; refine hw_region (E := TryzE) Tryzok ?_; (iterate 2 refine rq rfl rfl rfl rfl rfl ?_)
        refine rc rfl rfl rfl rfl rfl rfl good40 (c40 { s with opn := false, now := [] } s.now hlt) (⟨CoC.agg ⟨CoP.refl _, CoP.refl _, CoP.refl _, co_nil, trivial⟩, CoC.refl _, trivial⟩) rfl rfl ?_; refine rs rfl rfl rfl rfl rfl ?_
        refine rq rfl rfl rfl rfl rfl ?_; refine rg_nil ?_; show HW _ _ _ _ _; refine hw_ret ?_; refine ⟨.inr rfl, ?_⟩
        have hd := do5 (s := s) (x := x) (by omega) (by simp_all)
        rw [hd.1, hd.2]
        exact ⟨_, _, _, _, rfl, (by (repeat' apply And.intro) <;> first | trivial | exact Nat.le_of_ble_eq_true rfl | rfl), rfl, (by (repeat' apply And.intro) <;> first | trivial | exact Nat.le_of_ble_eq_true rfl | rfl), ⟨CoC.refl _, CoC.refl _, trivial⟩⟩
    · skip
      have h2 := r2
      have h2 := of_decide_eq_false h2
      try simp only [Int.toNat_natCast] at h2
      refine hw_seq ?_; refine hw_region (E := TryzE) Tryzok ?_; (iterate 2 refine rq rfl rfl rfl rfl rfl ?_); refine rg_nil ?_; show HW _ _ _ _ _; refine hw_cond _ rfl (fun r4 => ?_) (fun r4 => ?_)
      · skip
        have h4 := r4
        have h4 := of_decide_eq_true h4
        try simp only [Int.toNat_natCast] at h4
        (iterate 2 refine hw_seq ?_); refine hw_region (E := TryzE) Tryzok ?_; (iterate 3 refine rq rfl rfl rfl rfl rfl ?_); refine rg_nil ?_; show HW _ _ _ _ _; refine hw_cond _ rfl (fun r5 => ?_) (fun r5 => ?_)
        · skip
          have h5 := r5
          have h5 := not_t h5
          refine hw_seq ?_; refine hw_region (E := TryzE) Tryzok ?_; refine rq rfl rfl rfl rfl rfl ?_; refine rs rfl rfl rfl rfl rfl ?_; refine rq rfl rfl rfl rfl rfl ?_; refine rg_nil ?_; show HW _ _ _ _ _; refine hw_ret ?_
          refine ⟨.inr rfl, ?_⟩
          have hd := do6o (s := s) (x := x) (by omega) (by simp_all)
          rw [hd.1, hd.2]
          exact ⟨_, _, _, _, rfl, (by (repeat' apply And.intro) <;> first | trivial | exact Nat.le_of_ble_eq_true rfl | rfl), rfl, (by (repeat' apply And.intro) <;> first | trivial | exact Nat.le_of_ble_eq_true rfl | rfl), ⟨CoC.refl _, CoC.refl _, trivial⟩⟩
        · skip
          have h5 := r5
          have h5 := not_f h5
          refine hw_skip ?_; show HW _ _ _ _ _; refine hw_region (E := TryzE) Tryzok ?_; refine rq rfl rfl rfl rfl rfl ?_; refine rs rfl rfl rfl rfl rfl ?_; refine rq rfl rfl rfl rfl rfl ?_; refine rs rfl rfl rfl rfl rfl ?_
          refine rg_nil ?_; show HW _ _ _ _ _; refine hw_seq ?_; refine hw_region (E := TryzE) Tryzok ?_; refine rq rfl rfl rfl rfl rfl ?_; refine rs rfl rfl rfl rfl rfl ?_; refine rq rfl rfl rfl rfl rfl ?_; refine rg_nil ?_
          show HW _ _ _ _ _; refine hw_ret ?_; refine ⟨.inr rfl, ?_⟩
          first | have hd := do4 (s := s) (x := x) (by omega) (by assumption) | have hd := do6 (s := s) (x := x) (by omega) (by simp_all)
          rw [hd.1, hd.2]
          first | exact ⟨_, _, _, _, rfl, (by (repeat' apply And.intro) <;> first | trivial | exact Nat.le_of_ble_eq_true rfl | rfl), rfl, (by (repeat' apply And.intro) <;> first | trivial | exact Nat.le_of_ble_eq_true rfl | rfl), ⟨CoC.refl _, CoC.refl _, trivial⟩⟩ | exact ⟨_, _, _, _, rfl, (by (repeat' apply And.intro) <;> first | trivial | exact Nat.le_of_ble_eq_true rfl | rfl), rfl, (by (repeat' apply And.intro) <;> first | trivial | exact Nat.le_of_ble_eq_true rfl | rfl), ⟨CoC.agg ⟨CoP.refl _, CoP.refl _, CoP.refl _, co_nil, trivial⟩, CoC.refl _, trivial⟩⟩
      · skip
        have h4 := r4
        have h4 := of_decide_eq_false h4
        try simp only [Int.toNat_natCast] at h4
        refine hw_seq ?_; refine hw_region (E := TryzE) Tryzok ?_; (iterate 2 refine rq rfl rfl rfl rfl rfl ?_); refine rg_nil ?_; show HW _ _ _ _ _; refine hw_cond _ rfl (fun r6 => ?_) (fun r6 => ?_)
        · skip
          have h6 := r6
          have h6 := of_decide_eq_true h6
          try simp only [Int.toNat_natCast] at h6
          (iterate 2 refine hw_seq ?_); refine hw_region (E := TryzE) Tryzok ?_; (iterate 3 refine rq rfl rfl rfl rfl rfl ?_); refine rsplit rfl rfl (fun r7 => ?_) (fun r7 => ?_)
          · skip
            have h7 := r7
            (iterate 2 refine rk rfl rfl rfl (gtf r7) ?_); refine rq rfl rfl rfl rfl rfl ?_ (hp := r7); refine rg_nil ?_; show HW _ _ _ _ _; refine hw_cond _ rfl (fun _ => ?_) (fun e => by cases e); refine hw_seq ?_
            refine hw_region (E := TryzE) Tryzok ?_; refine rq rfl rfl rfl rfl rfl ?_; refine rs rfl rfl rfl rfl rfl ?_; refine rq rfl rfl rfl rfl rfl ?_; refine rg_nil ?_; show HW _ _ _ _ _; refine hw_ret ?_; refine ⟨.inr rfl, ?_⟩
            have hd := do7o (s := s) (x := x) (by omega) (by first | exact .inl (by assumption) | exact .inr (by omega))
            rw [hd.1, hd.2]
            exact ⟨_, _, _, _, rfl, (by (repeat' apply And.intro) <;> first | trivial | exact Nat.le_of_ble_eq_true rfl | rfl), rfl, (by (repeat' apply And.intro) <;> first | trivial | exact Nat.le_of_ble_eq_true rfl | rfl), ⟨CoC.refl _, CoC.refl _, trivial⟩⟩
          · skip
            have h7 := r7
            (iterate 2 refine rq rfl rfl rfl rfl (gff r7) ?_); refine rq rfl rfl rfl rfl rfl ?_; refine rg_nil ?_; show HW _ _ _ _ _; refine hw_cond _ rfl (fun r8 => ?_) (fun r8 => ?_)
            · skip
              have h8 := r8
              have h8 := bif_f r7 h8
              have h8 := of_decide_eq_true h8
              try simp only [Int.toNat_natCast] at h8
              refine hw_seq ?_; refine hw_region (E := TryzE) Tryzok ?_; refine rq rfl rfl rfl rfl rfl ?_; refine rs rfl rfl rfl rfl rfl ?_; refine rq rfl rfl rfl rfl rfl ?_; refine rg_nil ?_; show HW _ _ _ _ _; refine hw_ret ?_
              refine ⟨.inr rfl, ?_⟩
              have hd := do7o (s := s) (x := x) (by omega) (by first | exact .inl (by assumption) | exact .inr (by omega))
              rw [hd.1, hd.2]
              exact ⟨_, _, _, _, rfl, (by (repeat' apply And.intro) <;> first | trivial | exact Nat.le_of_ble_eq_true rfl | rfl), rfl, (by (repeat' apply And.intro) <;> first | trivial | exact Nat.le_of_ble_eq_true rfl | rfl), ⟨CoC.refl _, CoC.refl _, trivial⟩⟩
            · skip
              have h8 := r8
              have h8 := bif_f r7 h8
              have h8 := of_decide_eq_false h8
              try simp only [Int.toNat_natCast] at h8
              refine hw_skip ?_; show HW _ _ _ _ _; refine hw_seq ?_; refine hw_draw (E := TryzE) Tryzok Tryzmixed [0, 1, 2, 3, 4, 5, 6, 7, 8, 9, 10, 11, 12, 13, 14, 15, 16, 17, 18, 19] ?_
              (iterate 5 refine rq rfl rfl rfl rfl rfl ?_); refine rm 3 rfl rfl rfl rfl rfl rfl ?_; (iterate 2 refine rq rfl rfl rfl rfl rfl ?_); refine ra 4 true rfl rfl rfl rfl rfl rfl ?_
              (iterate 6 refine rq rfl rfl rfl rfl rfl ?_); refine rm 5 rfl rfl rfl rfl rfl rfl ?_; refine ra 6 true rfl rfl rfl rfl rfl rfl ?_; refine rq rfl rfl rfl rfl rfl ?_; refine rs rfl rfl rfl rfl rfl ?_
              refine rq rfl rfl rfl rfl rfl ?_; refine rg_nil ?_; refine ⟨by kernel_rfl, ?_⟩; show HW _ _ _ _ _; refine hw_ret ?_; refine ⟨.inr rfl, ?_⟩
              have hd := do7 (s := s) (x := x) (by omega) (by rintro (h | h) <;> first | (simp_all; done) | omega)
              rw [hd.1, hd.2]
              exact ⟨_, _, _, _, rfl, (by (repeat' apply And.intro) <;> first | trivial | exact Nat.le_of_ble_eq_true rfl | rfl), rfl, (by (repeat' apply And.intro) <;> first | trivial | exact Nat.le_of_ble_eq_true rfl | rfl), ⟨CoC.agg ⟨(co_takeI (by omega) (by omega)), (co_appP (Nat.zero_add _) rfl (fun i j hi hj => CoP.of_eq (by simp [appF])) (lt1b (lt1 (CoP.of_eq (by show txC (s.done.getD ((s.done.length : Int) - 1).toNat default) 0 = txC (s.done.getD (s.done.length - 1) default) 0; rw [show ((s.done.length : Int) - 1).toNat = s.done.length - 1 from by omega]))))), CoP.refl _, co_nil, trivial⟩, CoC.refl _, trivial⟩⟩
        · skip
          have h6 := r6
          have h6 := of_decide_eq_false h6
          try simp only [Int.toNat_natCast] at h6
          refine hw_seq ?_; refine hw_region (E := TryzE) Tryzok ?_; (iterate 2 refine rq rfl rfl rfl rfl rfl ?_); refine rg_nil ?_; show HW _ _ _ _ _; refine hw_cond _ rfl (fun r9 => ?_) (fun r9 => ?_)
          · skip
            have h9 := r9
            have h9 := of_decide_eq_true h9
            try simp only [Int.toNat_natCast] at h9
            (iterate 2 refine hw_seq ?_); refine hw_region (E := TryzE) Tryzok ?_; (iterate 3 refine rq rfl rfl rfl rfl rfl ?_); refine rsplit rfl rfl (fun r10 => ?_) (fun r10 => ?_)
            · skip
              have h10 := r10
              (iterate 2 refine rk rfl rfl rfl (gtf r10) ?_); refine rq rfl rfl rfl rfl rfl ?_ (hp := r10); refine rg_nil ?_; show HW _ _ _ _ _; refine hw_cond _ rfl (fun _ => ?_) (fun e => by cases e); refine hw_seq ?_
              refine hw_region (E := TryzE) Tryzok ?_; refine rq rfl rfl rfl rfl rfl ?_; refine rs rfl rfl rfl rfl rfl ?_; refine rq rfl rfl rfl rfl rfl ?_; refine rg_nil ?_; show HW _ _ _ _ _; refine hw_ret ?_
              refine ⟨.inr rfl, ?_⟩
              have hd := do8o (s := s) (x := x) (by omega) (by first | exact .inl (by assumption) | exact .inr (by omega))
              rw [hd.1, hd.2]
              exact ⟨_, _, _, _, rfl, (by (repeat' apply And.intro) <;> first | trivial | exact Nat.le_of_ble_eq_true rfl | rfl), rfl, (by (repeat' apply And.intro) <;> first | trivial | exact Nat.le_of_ble_eq_true rfl | rfl), ⟨CoC.refl _, CoC.refl _, trivial⟩⟩
            · skip
              have h10 := r10
              (iterate 2 refine rq rfl rfl rfl rfl (gff r10) ?_); refine rq rfl rfl rfl rfl rfl ?_; refine rg_nil ?_; show HW _ _ _ _ _; refine hw_cond _ rfl (fun r11 => ?_) (fun r11 => ?_)
              · skip
                have h11 := r11
                have h11 := bif_f r10 h11
                have h11 := of_decide_eq_true h11
                try simp only [Int.toNat_natCast] at h11
                refine hw_seq ?_; refine hw_region (E := TryzE) Tryzok ?_; refine rq rfl rfl rfl rfl rfl ?_; refine rs rfl rfl rfl rfl rfl ?_; refine rq rfl rfl rfl rfl rfl ?_; refine rg_nil ?_; show HW _ _ _ _ _; refine hw_ret ?_
                refine ⟨.inr rfl, ?_⟩
                have hd := do8o (s := s) (x := x) (by omega) (by first | exact .inl (by assumption) | exact .inr (by omega))
                rw [hd.1, hd.2]
                exact ⟨_, _, _, _, rfl, (by (repeat' apply And.intro) <;> first | trivial | exact Nat.le_of_ble_eq_true rfl | rfl), rfl, (by (repeat' apply And.intro) <;> first | trivial | exact Nat.le_of_ble_eq_true rfl | rfl), ⟨CoC.refl _, CoC.refl _, trivial⟩⟩
              · skip
                have h11 := r11
                have h11 := bif_f r10 h11
                have h11 := of_decide_eq_false h11
                try simp only [Int.toNat_natCast] at h11
                refine hw_skip ?_; show HW _ _ _ _ _; refine hw_seq ?_; refine hw_draw (E := TryzE) Tryzok Tryzmixed [0, 1, 2, 3, 4, 5, 6, 7, 8, 9, 10, 11, 12, 13, 14, 15, 16, 17, 18, 19] ?_; refine rm 7 rfl rfl rfl rfl rfl rfl ?_
                (iterate 2 refine rq rfl rfl rfl rfl rfl ?_); refine ra 8 true rfl rfl rfl rfl rfl rfl ?_; (iterate 6 refine rq rfl rfl rfl rfl rfl ?_); refine rm 9 rfl rfl rfl rfl rfl rfl ?_
                refine ra 10 true rfl rfl rfl rfl rfl rfl ?_; (iterate 6 refine rq rfl rfl rfl rfl rfl ?_); refine rs rfl rfl rfl rfl rfl ?_; refine rq rfl rfl rfl rfl rfl ?_; refine rg_nil ?_; refine ⟨by kernel_rfl, ?_⟩
                show HW _ _ _ _ _; refine hw_ret ?_; refine ⟨.inr rfl, ?_⟩
                have hd := do8 (s := s) (x := x) (by omega) (by rintro (h | h) <;> first | (simp_all; done) | omega)
                rw [hd.1, hd.2]
                exact ⟨_, _, _, _, rfl, (by (repeat' apply And.intro) <;> first | trivial | exact Nat.le_of_ble_eq_true rfl | rfl), rfl, (by (repeat' apply And.intro) <;> first | trivial | exact Nat.le_of_ble_eq_true rfl | rfl), ⟨CoC.agg ⟨(co_appP (Nat.zero_add _) rfl (fun i j hi hj => CoP.of_eq (by simp [appF])) (lt1b (lt1 (CoP.of_eq (by show txC (s.undone.getD ((s.undone.length : Int) - 1).toNat default) 0 = txC (s.undone.getD (s.undone.length - 1) default) 0; rw [show ((s.undone.length : Int) - 1).toNat = s.undone.length - 1 from by omega]))))), (co_takeI (by omega) (by omega)), CoP.refl _, co_nil, trivial⟩, CoC.refl _, trivial⟩⟩
          · skip
            have h9 := r9
            have h9 := of_decide_eq_false h9
            try simp only [Int.toNat_natCast] at h9
            refine hw_seq ?_; refine hw_region (E := TryzE) Tryzok ?_; (iterate 2 refine rq rfl rfl rfl rfl rfl ?_); refine rc rfl rfl rfl rfl rfl rfl good41 (c41 s x hs hx) (CoL.refl _) rfl rfl ?_
            (iterate 3 refine rq rfl rfl rfl rfl rfl ?_); refine rm 11 rfl rfl rfl rfl rfl rfl ?_; refine rs rfl rfl rfl rfl rfl ?_; refine rq rfl rfl rfl rfl rfl ?_; refine rg_nil ?_; show HW _ _ _ _ _; (iterate 2 refine hw_seq ?_)
            refine hw_region (E := TryzE) Tryzok ?_; (iterate 2 refine rq rfl rfl rfl rfl rfl ?_); refine rg_nil ?_; show HW _ _ _ _ _; refine hw_cond _ rfl (fun r12 => ?_) (fun r12 => ?_)
            · skip
              have h12 := r12
              have h12 := of_decide_eq_false (not_t h12)
              try simp only [Int.toNat_natCast] at h12
              refine hw_seq ?_; refine hw_region (E := TryzE) Tryzok ?_; (iterate 2 refine rq rfl rfl rfl rfl rfl ?_); refine rs rfl rfl rfl rfl rfl ?_; refine rq rfl rfl rfl rfl rfl ?_; refine rg_nil ?_; show HW _ _ _ _ _
              refine hw_ret ?_; refine ⟨.inr rfl, ?_⟩
              have hd := doc (s := s) (x := x) (by omega) (by omega) (by omega) (by omega) (by omega) (by simp_all)
              rw [hd.1, hd.2]
              exact ⟨_, _, _, _, rfl, (by (repeat' apply And.intro) <;> first | trivial | exact Nat.le_of_ble_eq_true rfl | rfl), rfl, (by (repeat' apply And.intro) <;> first | trivial | exact Nat.le_of_ble_eq_true rfl | rfl), ⟨CoC.refl _, CoC.refl _, trivial⟩⟩
            · skip
              have h12 := r12
              have h12 := of_decide_eq_true (not_f h12)
              try simp only [Int.toNat_natCast] at h12
              have hE : chOpE s x = 0 := by simpa using r12
              refine hw_skip ?_; show HW _ _ _ _ _; (iterate 2 refine hw_seq ?_); refine hw_draw (E := TryzE) Tryzok Tryzmixed [0, 1, 2, 3, 4, 5, 6, 7, 8, 9, 10, 11, 12, 13, 14] ?_; (iterate 4 refine rq rfl rfl rfl rfl rfl ?_)
              refine rsplit rfl rfl (fun r13 => ?_) (fun r13 => ?_)
              · skip
                have h13 := r13
                have h13 := of_decide_eq_true h13
                try simp only [Int.toNat_natCast] at h13
                (iterate 5 refine rq rfl rfl rfl rfl (gtt r13) ?_); refine rq rfl rfl rfl rfl (gtt r13) ?_ (hp := (by have := chOp_k4 hs hE (by assumption); exact ⟨rfl, this⟩)); (iterate 4 refine rq rfl rfl rfl rfl (gtt r13) ?_)
                refine rq rfl rfl rfl rfl rfl ?_; refine rg_nil ?_; refine ⟨by kernel_rfl, ?_⟩; show HW _ _ _ _ _; refine hw_cond _ rfl (fun r14 => ?_) (fun r14 => ?_)
                · skip
                  have h14 := r14
                  have h14 := bif_t r13 h14
                  refine hw_seq ?_; refine hw_region (E := TryzE) Tryzok ?_; refine rq rfl rfl rfl rfl rfl ?_; refine rs rfl rfl rfl rfl rfl ?_; refine rq rfl rfl rfl rfl rfl ?_; refine rg_nil ?_; show HW _ _ _ _ _; refine hw_ret ?_
                  refine ⟨.inr rfl, ?_⟩
                  have hd := docs (s := s) (x := x) (by omega) (by omega) (by omega) (by omega) (by omega) (by simp_all) (by simp_all [chSame, Val.eq_iff])
                  rw [hd.1, hd.2]
                  exact ⟨_, _, _, _, rfl, (by (repeat' apply And.intro) <;> first | trivial | exact Nat.le_of_ble_eq_true rfl | rfl), rfl, (by (repeat' apply And.intro) <;> first | trivial | exact Nat.le_of_ble_eq_true rfl | rfl), ⟨CoC.refl _, CoC.refl _, trivial⟩⟩
                · skip
                  have h14 := r14
                  have h14 := bif_t r13 h14
                  refine hw_skip ?_; show HW _ _ _ _ _; refine hw_seq ?_; refine hw_region (E := TryzE) Tryzok ?_; (iterate 2 refine rq rfl rfl rfl rfl rfl ?_)
                  refine rc rfl rfl rfl rfl rfl rfl good42 (c42 s (chOp s x) hlt hln) (CoL.refl _) rfl rfl ?_; refine rs rfl rfl rfl rfl rfl ?_; refine rq rfl rfl rfl rfl rfl ?_; refine rg_nil ?_; show HW _ _ _ _ _; refine hw_ret ?_
                  refine ⟨.inr rfl, ?_⟩
                  have hd := docp (s := s) (x := x) (by omega) (by omega) (by omega) (by omega) (by omega) (by simp_all) (by simp_all [chSame, Val.eq_iff])
                  rw [hd.1, hd.2]
                  exact ⟨_, _, _, _, rfl, (by (repeat' apply And.intro) <;> first | trivial | exact Nat.le_of_ble_eq_true rfl | rfl), rfl, (by (repeat' apply And.intro) <;> first | trivial | exact Nat.le_of_ble_eq_true rfl | rfl), ⟨CoC.refl _, CoC.refl _, trivial⟩⟩
              · skip
                have h13 := r13
                have h13 := of_decide_eq_false h13
                try simp only [Int.toNat_natCast] at h13
                (iterate 10 refine rk rfl rfl rfl (gft r13) ?_); refine rq rfl rfl rfl rfl rfl ?_ (hp := r13); refine rg_nil ?_; refine ⟨by kernel_rfl, ?_⟩; show HW _ _ _ _ _; refine hw_cond _ rfl (fun e => by cases e) (fun _ => ?_)
                refine hw_skip ?_; show HW _ _ _ _ _; refine hw_seq ?_; refine hw_region (E := TryzE) Tryzok ?_; (iterate 2 refine rq rfl rfl rfl rfl rfl ?_)
                refine rc rfl rfl rfl rfl rfl rfl good42 (c42 s (chOp s x) hlt hln) (CoL.refl _) rfl rfl ?_; refine rs rfl rfl rfl rfl rfl ?_; refine rq rfl rfl rfl rfl rfl ?_; refine rg_nil ?_; show HW _ _ _ _ _; refine hw_ret ?_
                refine ⟨.inr rfl, ?_⟩
                have hd := docp (s := s) (x := x) (by omega) (by omega) (by omega) (by omega) (by omega) (by simp_all) (by simp_all [chSame, Val.eq_iff])
                rw [hd.1, hd.2]
                exact ⟨_, _, _, _, rfl, (by (repeat' apply And.intro) <;> first | trivial | exact Nat.le_of_ble_eq_true rfl | rfl), rfl, (by (repeat' apply And.intro) <;> first | trivial | exact Nat.le_of_ble_eq_true rfl | rfl), ⟨CoC.refl _, CoC.refl _, trivial⟩⟩
end Go.Hx
end
