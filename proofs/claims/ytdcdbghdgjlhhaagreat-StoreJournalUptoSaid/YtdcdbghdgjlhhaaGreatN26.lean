/- A part of the proof: lemmas for the theorem of this claim, merged by a program of ours out of Sp7, W17, W18, W19, W20. -/
import Derived.Test.YtdcdbghdgjlhhaaGreatN12
import Derived.Test.YtdcdbghdgjlhhaaGreatN20
import Derived.Test.YtdcdbghdgjlhhaaGreatN23
import Derived.Test.YtdcdbghdgjlhhaaGreatN24
import Derived.Test.YtdcdbghdgjlhhaaGreatN25
set_option linter.all false
section
namespace Go.Hx
def lbd : List Row → Int → Nat
  | [], _ => 0
  | r :: l, id => if r.id < id then lbd l id + 1 else 0
theorem lbd_le {id : Int} : ∀ {l : List Row}, lbd l id ≤ l.length
  | [] => Nat.le_refl _
  | r :: l => by
    have := lbd_le (id := id) (l := l)
    unfold lbd
    split <;> simp <;> omega
theorem lbd_eq {id : Int} : ∀ {l : List Row} {i : Nat}, i ≤ l.length → (∀ k, k < i → (l.getD k default).id < id) → (i < l.length → ¬ (l.getD i default).id < id) → lbd l id = i
  | [], i, h, _, _ => by simp at h; simp [lbd, h]
  | r :: l, 0, _, _, h2 => by
    have := h2 (by simp)
    simp only [List.getD_cons_zero] at this
    simp [lbd, this]
  | r :: l, i + 1, h, h1, h2 => by
    have h0 := h1 0 (by omega)
    simp only [List.getD_cons_zero] at h0
    have ih := lbd_eq (l := l) (i := i) (id := id) (by simpa using h) (fun k hk => by have := h1 (k + 1) (by omega); simpa using this) (fun hi => by have := h2 (by simpa using hi); simpa using this)
    simp [lbd, h0, ih]
theorem lbd_lo {id : Int} : ∀ {l : List Row} {k : Nat}, k < lbd l id → (l.getD k default).id < id
  | [], k, h => by simp [lbd] at h
  | r :: l, k, h => by
    unfold lbd at h
    split at h
    · rename_i h0
      cases k with
      | zero => simpa using h0
      | succ k => simpa using lbd_lo (l := l) (k := k) (by omega)
    · omega
theorem lbd_at {id : Int} : ∀ {l : List Row}, lbd l id < l.length → ¬ (l.getD (lbd l id) default).id < id
  | [], h => by simp at h
  | r :: l, h => by
    unfold lbd at h ⊢
    split at h
    · rename_i h0
      rw [if_pos h0]
      simpa using lbd_at (l := l) (by simpa using h)
    · rename_i h0
      rw [if_neg h0]
      simpa using h0
theorem sorted_le {l : List Row} (hs : Sorted l) {i j : Nat} (hij : i ≤ j) (hj : j < l.length) : (l.getD i default).id ≤ (l.getD j default).id := by
  rcases Nat.lt_or_eq_of_le hij with h | rfl
  · rw [getD_lt _ _ hj, getD_lt _ _ (by omega)]
    have := List.pairwise_iff_getElem.1 hs i j (by omega) hj h
    omega
  · exact Int.le_refl _
theorem ins_at {l : List Row} {r : Row} (hs : Sorted l) (hn : ∀ x ∈ l, x.id ≠ r.id) : insAt l (lbd l r.id) r = insR r l := by
  refine insAt_insR hs lbd_le (fun j h1 h2 => ?_) ?_
  · have ha := lbd_at (l := l) (id := r.id) (by omega)
    have hb := sorted_le hs h1 h2
    have hc := hn _ (by rw [getD_lt _ _ h2]; exact List.getElem_mem h2 : (l.getD j default) ∈ l)
    omega
  · by_cases h : lbd l r.id = 0
    · exact .inl h
    · have := lbd_lo (l := l) (id := r.id) (k := lbd l r.id - 1) (by omega)
      exact .inr (by omega)
def bsF (l : List Row) (id : Int) : Bool := decide (lbd l id < l.length) && decide ((l.getD (lbd l id) default).id = id)
def cmpI (a b : Int) : Int := if a < b then -1 else if b < a then 1 else 0
theorem mid_eq (i j : Nat) : ((i : Int) + j).fdiv (2 ^ (min ((1 : Int).toNat) IntKind.u64.bits)) = (((i + j) / 2 : Nat) : Int) := by
  show ((i : Int) + j).fdiv 2 = _
  rw [Int.fdiv_eq_ediv_of_nonneg _ (by omega)]
  omega
theorem cmpI_neg {a b : Int} : cmpI a b < 0 ↔ a < b := by unfold cmpI; split <;> (try split) <;> omega
theorem cmpI_0 {a b : Int} : cmpI a b = 0 ↔ a = b := by unfold cmpI; split <;> (try split) <;> omega
theorem bs_lo {l : List Row} {id : Int} {i j : Nat} (hs : Sorted l) (h : i < j) (h2 : j ≤ l.length) (hA : ∀ k, k < i → (l.getD k default).id < id) (hB : ∀ k, j ≤ k → k < l.length → id ≤ (l.getD k default).id)
    (hc : cmpI (l.getD (((i + j) / 2 : Nat) : Int).toNat default).id id < 0) : (i + j) / 2 + 1 ≤ j ∧ j ≤ l.length ∧ (∀ k, k < (i + j) / 2 + 1 → (l.getD k default).id < id) ∧ (∀ k, j ≤ k → k < l.length → id ≤ (l.getD k default).id) := by
  rw [cmpI_neg, Int.toNat_natCast] at hc
  refine ⟨by omega, h2, fun k hk => ?_, hB⟩
  have := sorted_le hs (i := k) (j := (i + j) / 2) (by omega) (by omega)
  omega
theorem bs_hi {l : List Row} {id : Int} {i j : Nat} (hs : Sorted l) (h : i < j) (h2 : j ≤ l.length) (hA : ∀ k, k < i → (l.getD k default).id < id) (hB : ∀ k, j ≤ k → k < l.length → id ≤ (l.getD k default).id)
    (hc : ¬ cmpI (l.getD (((i + j) / 2 : Nat) : Int).toNat default).id id < 0) : i ≤ (i + j) / 2 ∧ (i + j) / 2 ≤ l.length ∧ (∀ k, k < i → (l.getD k default).id < id) ∧ (∀ k, (i + j) / 2 ≤ k → k < l.length → id ≤ (l.getD k default).id) := by
  rw [cmpI_neg, Int.toNat_natCast] at hc
  refine ⟨by omega, by omega, hA, fun k hk hl => ?_⟩
  have := sorted_le hs (i := (i + j) / 2) (j := k) hk hl
  omega
theorem insF_at {l : List Row} {k : Nat} {r : Row} (h : k ≤ l.length) (i j : Nat) : CoP (insF k (lf Row.c l) (lf Row.c [r]) i j) (lf Row.c (insAt l k r) i j) := by
  refine CoP.of_eq ?_
  unfold insF lf
  simp only [List.getD]
  rw [insAt_get h]
  by_cases h1 : i < k
  · simp [h1]
  · by_cases h2 : i = k
    · subst h2; simp
    · simp [h1, h2]
end Go.Hx
end
section
namespace Go.Hx
open Go.Proofs
set_option maxRecDepth 100000
theorem good97 : goodFn Tryz.prog 97 := ⟨Tryz.f97, Tryz.func97, by kernel_rfl, by kernel_rfl⟩
theorem good96 : goodFn Tryz.prog 96 := ⟨Tryz.f96, Tryz.func96, by kernel_rfl, by kernel_rfl⟩
theorem c96 (r : Row) (id : Int) : HPure Tryz.prog 96 [r.pc, pI id] (prOf [pI (cmpI r.id id)]) := by
  refine hpure_of (nt := 15) Tryzok Tryz.func96 rfl rfl (Nat.le_of_ble_eq_true rfl) ?_; refine hw_seq ?_; refine hw_region (E := TryzE) Tryzok ?_; refine rm 0 rfl rfl rfl rfl rfl rfl ?_; refine rq rfl rfl rfl rfl rfl ?_
  refine rg_nil ?_; show HW _ _ _ _ _; refine hw_seq ?_; refine hw_block ?_; refine hw_seq ?_; refine hw_region (E := TryzE) Tryzok ?_; (iterate 5 refine rq rfl rfl rfl rfl rfl ?_); refine rg_nil ?_; show HW _ _ _ _ _
  refine hw_cond _ rfl (fun r0 => ?_) (fun r0 => ?_)
  · skip
    have h0 := r0
    have h0 := of_decide_eq_true h0
    try simp only [Int.toNat_natCast] at h0
    refine hw_seq ?_; refine hw_region (E := TryzE) Tryzok ?_; refine rq rfl rfl rfl rfl rfl ?_; refine rg_nil ?_; show HW _ _ _ _ _; refine hw_ret ?_; refine ⟨.inr rfl, ?_⟩
    exact ⟨_, _, _, _, rfl, (by (repeat' apply And.intro) <;> first | trivial | exact Nat.le_of_ble_eq_true rfl | rfl), rfl, (by (repeat' apply And.intro) <;> first | trivial | exact Nat.le_of_ble_eq_true rfl | rfl), ⟨cci (by unfold cmpI; split <;> omega), trivial⟩⟩
  · skip
    have h0 := r0
    have h0 := of_decide_eq_false h0
    try simp only [Int.toNat_natCast] at h0
    refine hw_seq ?_; refine hw_region (E := TryzE) Tryzok ?_; (iterate 5 refine rq rfl rfl rfl rfl rfl ?_); refine rg_nil ?_; show HW _ _ _ _ _; refine hw_cond _ rfl (fun r1 => ?_) (fun r1 => ?_)
    · skip
      have h1 := r1
      have h1 := of_decide_eq_true h1
      try simp only [Int.toNat_natCast] at h1
      refine hw_seq ?_; refine hw_region (E := TryzE) Tryzok ?_; refine rq rfl rfl rfl rfl rfl ?_; refine rg_nil ?_; show HW _ _ _ _ _; refine hw_ret ?_; refine ⟨.inr rfl, ?_⟩
      exact ⟨_, _, _, _, rfl, (by (repeat' apply And.intro) <;> first | trivial | exact Nat.le_of_ble_eq_true rfl | rfl), rfl, (by (repeat' apply And.intro) <;> first | trivial | exact Nat.le_of_ble_eq_true rfl | rfl), ⟨cci (by unfold cmpI; split <;> (try split) <;> omega), trivial⟩⟩
    · skip
      have h1 := r1
      have h1 := of_decide_eq_false h1
      try simp only [Int.toNat_natCast] at h1
      refine hw_skip ?_; show HW _ _ _ _ _; refine hw_seq ?_; refine hw_region (E := TryzE) Tryzok ?_; refine rq rfl rfl rfl rfl rfl ?_; refine rg_nil ?_; show HW _ _ _ _ _; refine hw_ret ?_; refine ⟨.inr rfl, ?_⟩
      exact ⟨_, _, _, _, rfl, (by (repeat' apply And.intro) <;> first | trivial | exact Nat.le_of_ble_eq_true rfl | rfl), rfl, (by (repeat' apply And.intro) <;> first | trivial | exact Nat.le_of_ble_eq_true rfl | rfl), ⟨cci (by unfold cmpI; split <;> (try split) <;> omega), trivial⟩⟩
theorem good95 : goodFn Tryz.prog 95 := ⟨Tryz.f95, Tryz.func95, by kernel_rfl, by kernel_rfl⟩
theorem c95 (l : List Row) (id : Int) (caps : Nat → PV) (hs : Sorted l) (hl : l.length ≤ 68719476736) : HPure Tryz.prog 95 [pP (rows l), pI id, pP (.fn 96 0 caps)] (prOf [pI (lbd l id), pB (bsF l id)]) := by
  refine hpure_of (nt := 49) Tryzok Tryz.func95 rfl rfl (Nat.le_of_ble_eq_true rfl) ?_; refine hw_seq ?_; refine hw_region (E := TryzE) Tryzok ?_; (iterate 2 refine rq rfl rfl rfl rfl rfl ?_); refine rg_nil ?_; show HW _ _ _ _ _
  refine hw_seq ?_; refine hw_region (E := TryzE) Tryzok ?_; (iterate 3 refine rq rfl rfl rfl rfl rfl ?_); refine rg_nil ?_; show HW _ _ _ _ _; refine hw_seq ?_; refine hw_region (E := TryzE) Tryzok ?_
  (iterate 3 refine rq rfl rfl rfl rfl rfl ?_); refine rg_nil ?_; show HW _ _ _ _ _; refine hw_seq ?_; refine hw_block ?_
  refine hw_loopK (ι := (Nat × Nat)) ⟨[(0, some _), (1, some _), (2, some _), (8, some _)], []⟩ ⟨⟨⟨_, rfl, CoR.refl _⟩, ⟨_, rfl, CoR.refl _⟩, ⟨_, rfl, CoR.refl _⟩, ⟨_, rfl, CoR.refl _⟩, trivial⟩, trivial⟩ (fun q => match q with | (i, j) => ⟨[(9, some (vI i)), (10, some (vI j))], []⟩) (fun q => match q with | (i, j) => i ≤ j ∧ j ≤ l.length ∧ (∀ k, k < i → (l.getD k default).id < id) ∧ (∀ k, j ≤ k → k < l.length → id ≤ (l.getD k default).id)) (fun q => match q with | (i, j) => j - i) ((0, l.length)) (⟨Nat.zero_le _, Nat.le_refl _, all_zero, fun k h1 h2 => by omega⟩) ⟨⟨⟨_, rfl, (by first | exact CoR.refl _ | exact coi (by omega) | exact cob (by simp_all))⟩, ⟨_, rfl, (by first | exact CoR.refl _ | exact coi (by omega) | exact cob (by simp_all))⟩, trivial⟩, trivial⟩ ?_
  rintro ⟨i, j⟩ hq
  obtain ⟨h1, h2, hA, hB⟩ : i ≤ j ∧ j ≤ l.length ∧ (∀ k, k < i → (l.getD k default).id < id) ∧ (∀ k, j ≤ k → k < l.length → id ≤ (l.getD k default).id) := hq
  have hmid := mid_eq i j
  (iterate 2 refine hw_seq ?_); refine hw_region (E := TryzE) Tryzok ?_; (iterate 3 refine rq rfl rfl rfl rfl rfl ?_); refine rg_nil ?_; show HW _ _ _ _ _; refine hw_cond _ rfl (fun r0 => ?_) (fun r0 => ?_)
  · skip
    have h0 := r0
    have h0 := of_decide_eq_true h0
    try simp only [Int.toNat_natCast] at h0
    refine hw_skip ?_; show HW _ _ _ _ _; refine hw_block ?_; refine hw_seq ?_; refine hw_region (E := TryzE) Tryzok ?_; (iterate 7 refine rq rfl rfl rfl rfl rfl ?_); refine rg_nil ?_; show HW _ _ _ _ _; refine hw_seq ?_
    refine hw_region (E := TryzE) Tryzok ?_; (iterate 6 refine rq rfl rfl rfl rfl rfl ?_); refine rc rfl rfl rfl rfl rfl rfl good96 (c96 _ _) (CoL.refl _) rfl rfl ?_; refine rq rfl rfl rfl rfl rfl ?_; refine rg_nil ?_
    show HW _ _ _ _ _; refine hw_cond _ rfl (fun r1 => ?_) (fun r1 => ?_)
    · skip
      have h1 := r1
      have h1 := of_decide_eq_true h1
      try simp only [Int.toNat_natCast] at h1
      have hc := h1
      refine hw_region (E := TryzE) Tryzok ?_; (iterate 3 refine rq rfl rfl rfl rfl rfl ?_); refine rg_nil ?_
      first | (refine ⟨((i + j) / 2 + 1, j), ?_, ?_, ?_⟩
               · show ((i + j) / 2 + 1) ≤ j ∧ j ≤ l.length ∧ (∀ k, k < ((i + j) / 2 + 1) → (l.getD k default).id < id) ∧ (∀ k, j ≤ k → k < l.length → id ≤ (l.getD k default).id)
                 exact bs_lo hs (by omega) h2 hA hB (by rw [hmid] at hc; exact hc)
               · show j - ((i + j) / 2 + 1) < j - i
                 omega
               · exact ⟨⟨⟨_, rfl, (coi (by rw [hmid]; omega))⟩, ⟨_, rfl, (CoR.refl _)⟩, ⟨_, rfl, CoR.refl _⟩, ⟨_, rfl, CoR.refl _⟩, ⟨_, rfl, CoR.refl _⟩, ⟨_, rfl, CoR.refl _⟩, trivial⟩, trivial⟩)
            | (refine ⟨(i, (i + j) / 2), ?_, ?_, ?_⟩
               · show i ≤ ((i + j) / 2) ∧ ((i + j) / 2) ≤ l.length ∧ (∀ k, k < i → (l.getD k default).id < id) ∧ (∀ k, ((i + j) / 2) ≤ k → k < l.length → id ≤ (l.getD k default).id)
                 exact bs_hi hs (by omega) h2 hA hB (by rw [hmid] at hc; exact hc)
               · show (i + j) / 2 - i < j - i
                 omega
               · exact ⟨⟨⟨_, rfl, (CoR.refl _)⟩, ⟨_, rfl, (coi hmid)⟩, ⟨_, rfl, CoR.refl _⟩, ⟨_, rfl, CoR.refl _⟩, ⟨_, rfl, CoR.refl _⟩, ⟨_, rfl, CoR.refl _⟩, trivial⟩, trivial⟩)
    · skip
      have h1 := r1
      have h1 := of_decide_eq_false h1
      try simp only [Int.toNat_natCast] at h1
      have hc := h1
      refine hw_region (E := TryzE) Tryzok ?_; (iterate 2 refine rq rfl rfl rfl rfl rfl ?_); refine rg_nil ?_
      first | (refine ⟨((i + j) / 2 + 1, j), ?_, ?_, ?_⟩
               · show ((i + j) / 2 + 1) ≤ j ∧ j ≤ l.length ∧ (∀ k, k < ((i + j) / 2 + 1) → (l.getD k default).id < id) ∧ (∀ k, j ≤ k → k < l.length → id ≤ (l.getD k default).id)
                 exact bs_lo hs (by omega) h2 hA hB (by rw [hmid] at hc; exact hc)
               · show j - ((i + j) / 2 + 1) < j - i
                 omega
               · exact ⟨⟨⟨_, rfl, (coi (by rw [hmid]; omega))⟩, ⟨_, rfl, (CoR.refl _)⟩, ⟨_, rfl, CoR.refl _⟩, ⟨_, rfl, CoR.refl _⟩, ⟨_, rfl, CoR.refl _⟩, ⟨_, rfl, CoR.refl _⟩, trivial⟩, trivial⟩)
            | (refine ⟨(i, (i + j) / 2), ?_, ?_, ?_⟩
               · show i ≤ ((i + j) / 2) ∧ ((i + j) / 2) ≤ l.length ∧ (∀ k, k < i → (l.getD k default).id < id) ∧ (∀ k, ((i + j) / 2) ≤ k → k < l.length → id ≤ (l.getD k default).id)
                 exact bs_hi hs (by omega) h2 hA hB (by rw [hmid] at hc; exact hc)
               · show (i + j) / 2 - i < j - i
                 omega
               · exact ⟨⟨⟨_, rfl, (CoR.refl _)⟩, ⟨_, rfl, (coi hmid)⟩, ⟨_, rfl, CoR.refl _⟩, ⟨_, rfl, CoR.refl _⟩, ⟨_, rfl, CoR.refl _⟩, ⟨_, rfl, CoR.refl _⟩, trivial⟩, trivial⟩)
  · skip
    have h0 := r0
    have h0 := of_decide_eq_false h0
    try simp only [Int.toNat_natCast] at h0
    obtain rfl : i = j := by omega
    have hb := lbd_eq h2 hA (fun hi => by have := hB i (Nat.le_refl _) hi; omega)
    refine hw_exit ?_; show HW _ _ _ _ _; refine hw_seq ?_; refine hw_region (E := TryzE) Tryzok ?_; (iterate 5 refine rq rfl rfl rfl rfl rfl ?_); refine rsplit rfl rfl (fun r2 => ?_) (fun r2 => ?_)
    · skip
      have h2 := r2
      have h2 := of_decide_eq_true h2
      try simp only [Int.toNat_natCast] at h2
      (iterate 6 refine rq rfl rfl rfl rfl (gtt r2) ?_); refine rc rfl rfl rfl rfl rfl rfl good96 (c96 _ _) (CoL.refl _) rfl (gtt r2) ?_; refine rq rfl rfl rfl rfl (gtt r2) ?_; (iterate 3 refine rq rfl rfl rfl rfl rfl ?_)
      refine rg_nil ?_; show HW _ _ _ _ _; refine hw_ret ?_; refine ⟨.inr rfl, ?_⟩
      rw [hb]
      exact ⟨_, _, _, _, rfl, (by (repeat' apply And.intro) <;> first | trivial | exact Nat.le_of_ble_eq_true rfl | rfl), rfl, (by (repeat' apply And.intro) <;> first | trivial | exact Nat.le_of_ble_eq_true rfl | rfl), ⟨CoC.refl _, ccb (by first | (simp [bsF, hb, cmpI_0, *]; done) | (unfold bsF; rw [hb]; simp [cmpI_0, *] <;> (intros; omega))), trivial⟩⟩
    · skip
      have h2 := r2
      have h2 := of_decide_eq_false h2
      try simp only [Int.toNat_natCast] at h2
      (iterate 8 refine rk rfl rfl rfl (gft r2) ?_); refine rq rfl rfl rfl rfl rfl ?_ (hp := r2); (iterate 2 refine rq rfl rfl rfl rfl rfl ?_); refine rg_nil ?_; show HW _ _ _ _ _; refine hw_ret ?_; refine ⟨.inr rfl, ?_⟩
      rw [hb]
      exact ⟨_, _, _, _, rfl, (by (repeat' apply And.intro) <;> first | trivial | exact Nat.le_of_ble_eq_true rfl | rfl), rfl, (by (repeat' apply And.intro) <;> first | trivial | exact Nat.le_of_ble_eq_true rfl | rfl), ⟨CoC.refl _, ccb (by first | (simp [bsF, hb, cmpI_0, *]; done) | (unfold bsF; rw [hb]; simp [cmpI_0, *] <;> (intros; omega))), trivial⟩⟩
end Go.Hx
end
section
namespace Go.Hx
open Go.Proofs
set_option maxRecDepth 100000
theorem good70 : goodFn Tryz.prog 70 := ⟨Tryz.f70, Tryz.func70, by kernel_rfl, by kernel_rfl⟩
theorem c70 (t : Tbl) (r : Row) : HPure Tryz.prog 70 [t.pc, r.pc] (prOf [(insT t r).pc, pI (insErr t r)]) := by
  refine hpure_of (nt := 75) Tryzok Tryz.func70 rfl rfl (Nat.le_of_ble_eq_true rfl) ?_; refine hw_seq ?_; refine hw_region (E := TryzE) Tryzok ?_; refine rm 0 rfl rfl rfl rfl rfl rfl ?_; refine rm 1 rfl rfl rfl rfl rfl rfl ?_
  refine rm 2 rfl rfl rfl rfl rfl rfl ?_; refine rq rfl rfl rfl rfl rfl ?_; refine rg_nil ?_; show HW _ _ _ _ _; (iterate 2 refine hw_seq ?_); refine hw_region (E := TryzE) Tryzok ?_; refine rq rfl rfl rfl rfl rfl ?_
  refine rc rfl rfl rfl rfl rfl rfl good88 (c88 _) (CoL.refl _) rfl rfl ?_; refine rq rfl rfl rfl rfl rfl ?_; refine rg_nil ?_; show HW _ _ _ _ _; refine hw_seq ?_; refine hw_region (E := TryzE) Tryzok ?_
  (iterate 2 refine rq rfl rfl rfl rfl rfl ?_); refine rg_nil ?_; show HW _ _ _ _ _; refine hw_cond _ rfl (fun r0 => ?_) (fun r0 => ?_)
  · skip
    have h0 := r0
    have h0 := of_decide_eq_false (not_t h0)
    try simp only [Int.toNat_natCast] at h0
    refine hw_seq ?_; refine hw_region (E := TryzE) Tryzok ?_; (iterate 2 refine rq rfl rfl rfl rfl rfl ?_); refine rs rfl rfl rfl rfl rfl ?_; refine rq rfl rfl rfl rfl rfl ?_; refine rg_nil ?_; show HW _ _ _ _ _; refine hw_ret ?_
    refine ⟨.inr rfl, ?_⟩
    have he : insErr t r = tblErr t := by unfold insErr; rw [if_pos (by assumption)]
    rw [insT_err he (by first | assumption | omega | decide)]
    exact ⟨_, _, _, _, rfl, (by (repeat' apply And.intro) <;> first | trivial | exact Nat.le_of_ble_eq_true rfl | rfl), rfl, (by (repeat' apply And.intro) <;> first | trivial | exact Nat.le_of_ble_eq_true rfl | rfl), ⟨CoC.agg ⟨CoP.refl _, co_nil, co_nil, trivial⟩, cci he.symm, trivial⟩⟩
  · skip
    have h0 := r0
    have h0 := of_decide_eq_true (not_f h0)
    try simp only [Int.toNat_natCast] at h0
    have hT := tok_iff.1 (show tblErr t = 0 by simpa using h0)
    have hok := hT.ok
    refine hw_skip ?_; show HW _ _ _ _ _; refine hw_seq ?_; refine hw_region (E := TryzE) Tryzok ?_; (iterate 3 refine rq rfl rfl rfl rfl rfl ?_); refine rc rfl rfl rfl rfl rfl rfl good68 (c68 _ _) (CoL.refl _) rfl rfl ?_
    (iterate 5 refine rq rfl rfl rfl rfl rfl ?_); refine rg_nil ?_; show HW _ _ _ _ _; refine hw_seq ?_; refine hw_block ?_; refine hw_seq ?_; refine hw_region (E := TryzE) Tryzok ?_; (iterate 8 refine rq rfl rfl rfl rfl rfl ?_)
    refine rg_nil ?_; show HW _ _ _ _ _; refine hw_cond _ rfl (fun r1 => ?_) (fun r1 => ?_)
    · skip
      have h1 := r1
      have h1 := of_decide_eq_false (not_t h1)
      try simp only [Int.toNat_natCast] at h1
      refine hw_seq ?_; refine hw_region (E := TryzE) Tryzok ?_; refine rq rfl rfl rfl rfl rfl ?_; refine rs rfl rfl rfl rfl rfl ?_; refine rq rfl rfl rfl rfl rfl ?_; refine rg_nil ?_; show HW _ _ _ _ _; refine hw_ret ?_
      refine ⟨.inr rfl, ?_⟩
      have he : insErr t r = 6 := by unfold insErr; rw [if_neg (by omega), if_pos (by omega)]
      rw [insT_err he (by first | assumption | omega | decide)]
      exact ⟨_, _, _, _, rfl, (by (repeat' apply And.intro) <;> first | trivial | exact Nat.le_of_ble_eq_true rfl | rfl), rfl, (by (repeat' apply And.intro) <;> first | trivial | exact Nat.le_of_ble_eq_true rfl | rfl), ⟨CoC.agg ⟨CoP.refl _, co_nil, co_nil, trivial⟩, cci he.symm, trivial⟩⟩
    · skip
      have h1 := r1
      have h1 := of_decide_eq_true (not_f h1)
      try simp only [Int.toNat_natCast] at h1
      refine hw_seq ?_; refine hw_region (E := TryzE) Tryzok ?_; (iterate 4 refine rq rfl rfl rfl rfl rfl ?_); refine rsplit rfl rfl (fun r2 => ?_) (fun r2 => ?_)
      · skip
        have h2 := r2
        have h2 := of_decide_eq_true h2
        try simp only [Int.toNat_natCast] at h2
        (iterate 4 refine rk rfl rfl rfl (gtf r2) ?_); refine rq rfl rfl rfl rfl rfl ?_ (hp := r2); refine rq rfl rfl rfl rfl rfl ?_; refine rg_nil ?_; show HW _ _ _ _ _; refine hw_cond _ rfl (fun _ => ?_) (fun e => by cases e)
        refine hw_seq ?_; refine hw_region (E := TryzE) Tryzok ?_; refine rq rfl rfl rfl rfl rfl ?_; refine rs rfl rfl rfl rfl rfl ?_; refine rq rfl rfl rfl rfl rfl ?_; refine rg_nil ?_; show HW _ _ _ _ _; refine hw_ret ?_
        refine ⟨.inr rfl, ?_⟩
        have he : insErr t r = 1 := by unfold insErr; rw [if_neg (by omega), if_neg (by omega), if_pos (by first | exact .inl (by omega) | exact .inr (by assumption))]
        rw [insT_err he (by first | assumption | omega | decide)]
        exact ⟨_, _, _, _, rfl, (by (repeat' apply And.intro) <;> first | trivial | exact Nat.le_of_ble_eq_true rfl | rfl), rfl, (by (repeat' apply And.intro) <;> first | trivial | exact Nat.le_of_ble_eq_true rfl | rfl), ⟨CoC.agg ⟨CoP.refl _, co_nil, co_nil, trivial⟩, cci he.symm, trivial⟩⟩
      · skip
        have h2 := r2
        have h2 := of_decide_eq_false h2
        try simp only [Int.toNat_natCast] at h2
        (iterate 2 refine rq rfl rfl rfl rfl (gff r2) ?_); refine rc rfl rfl rfl rfl rfl rfl good93 (c93 _) (CoL.refl _) rfl (gff r2) ?_; refine rq rfl rfl rfl rfl (gff r2) ?_; (iterate 2 refine rq rfl rfl rfl rfl rfl ?_)
        refine rg_nil ?_; show HW _ _ _ _ _; refine hw_cond _ rfl (fun r3 => ?_) (fun r3 => ?_)
        · skip
          have h3 := r3
          have h3 := bif_f r2 h3
          have h3 := not_t h3
          refine hw_seq ?_; refine hw_region (E := TryzE) Tryzok ?_; refine rq rfl rfl rfl rfl rfl ?_; refine rs rfl rfl rfl rfl rfl ?_; refine rq rfl rfl rfl rfl rfl ?_; refine rg_nil ?_; show HW _ _ _ _ _; refine hw_ret ?_
          refine ⟨.inr rfl, ?_⟩
          have he : insErr t r = 1 := by unfold insErr; rw [if_neg (by omega), if_neg (by omega), if_pos (by first | exact .inl (by omega) | exact .inr (by assumption))]
          rw [insT_err he (by first | assumption | omega | decide)]
          exact ⟨_, _, _, _, rfl, (by (repeat' apply And.intro) <;> first | trivial | exact Nat.le_of_ble_eq_true rfl | rfl), rfl, (by (repeat' apply And.intro) <;> first | trivial | exact Nat.le_of_ble_eq_true rfl | rfl), ⟨CoC.agg ⟨CoP.refl _, co_nil, co_nil, trivial⟩, cci he.symm, trivial⟩⟩
        · skip
          have h3 := r3
          have h3 := bif_f r2 h3
          have h3 := not_f h3
          refine hw_seq ?_; refine hw_region (E := TryzE) Tryzok ?_; (iterate 2 refine rq rfl rfl rfl rfl rfl ?_); refine rg_nil ?_; show HW _ _ _ _ _; refine hw_cond _ rfl (fun r4 => ?_) (fun r4 => ?_)
          · skip
            have h4 := r4
            have hkn := of_decide_eq_true h4
            refine hw_seq ?_; refine hw_region (E := TryzE) Tryzok ?_; refine rq rfl rfl rfl rfl rfl ?_; refine rs rfl rfl rfl rfl rfl ?_; refine rq rfl rfl rfl rfl rfl ?_; refine rg_nil ?_; show HW _ _ _ _ _; refine hw_ret ?_
            refine ⟨.inr rfl, ?_⟩
            have he : insErr t r = 5 := by unfold insErr; rw [if_neg (by omega), if_neg (by omega), if_neg (by rintro (h | h) <;> first | omega | simp_all), if_pos (by assumption)]
            rw [insT_err he (by first | assumption | omega | decide)]
            exact ⟨_, _, _, _, rfl, (by (repeat' apply And.intro) <;> first | trivial | exact Nat.le_of_ble_eq_true rfl | rfl), rfl, (by (repeat' apply And.intro) <;> first | trivial | exact Nat.le_of_ble_eq_true rfl | rfl), ⟨CoC.agg ⟨CoP.refl _, co_nil, co_nil, trivial⟩, cci he.symm, trivial⟩⟩
          · skip
            have h4 := r4
            have hkn := of_decide_eq_false h4
            refine hw_seq ?_; refine hw_region (E := TryzE) Tryzok ?_; (iterate 5 refine rq rfl rfl rfl rfl rfl ?_); refine rg_nil ?_; show HW _ _ _ _ _; refine hw_cond _ rfl (fun r5 => ?_) (fun r5 => ?_)
            · skip
              have h5 := r5
              have h5 := of_decide_eq_true h5
              try simp only [Int.toNat_natCast] at h5
              refine hw_seq ?_; refine hw_region (E := TryzE) Tryzok ?_; refine rq rfl rfl rfl rfl rfl ?_; refine rs rfl rfl rfl rfl rfl ?_; refine rq rfl rfl rfl rfl rfl ?_; refine rg_nil ?_; show HW _ _ _ _ _; refine hw_ret ?_
              refine ⟨.inr rfl, ?_⟩
              have he : insErr t r = 3 := by unfold insErr; rw [if_neg (by omega), if_neg (by omega), if_neg (by rintro (h | h) <;> first | omega | simp_all), if_neg (by omega), if_pos (by omega)]
              rw [insT_err he (by first | assumption | omega | decide)]
              exact ⟨_, _, _, _, rfl, (by (repeat' apply And.intro) <;> first | trivial | exact Nat.le_of_ble_eq_true rfl | rfl), rfl, (by (repeat' apply And.intro) <;> first | trivial | exact Nat.le_of_ble_eq_true rfl | rfl), ⟨CoC.agg ⟨CoP.refl _, co_nil, co_nil, trivial⟩, cci he.symm, trivial⟩⟩
            · skip
              have h5 := r5
              have h5 := of_decide_eq_false h5
              try simp only [Int.toNat_natCast] at h5
              refine hw_skip ?_; show HW _ _ _ _ _; refine hw_seq ?_
              have hie : insErr t r = 0 := by unfold insErr; rw [if_neg (by omega), if_neg (by omega), if_neg (by rintro (h | h) <;> first | omega | simp_all), if_neg (by omega), if_neg (by omega)]
              have hs := rowsErr_sorted hT.rs
              have hnr := hT.nr
              have hna := hT.na
              refine hw_region (E := TryzE) Tryzok ?_; (iterate 3 refine rq rfl rfl rfl rfl rfl ?_); refine rg_fcall rfl rfl rfl rfl rfl rfl good94 (c94h t t.rows hok.1 hok.2.1 hok.2.2) (CoHCL.refl _) trivial rfl rfl ?_
              refine rm 3 rfl rfl rfl rfl rfl rfl ?_; refine rs rfl rfl rfl rfl rfl ?_; refine rg_nil ?_; show HW _ _ _ _ _; refine hw_seq ?_; refine hw_region (E := TryzE) Tryzok ?_; (iterate 4 refine rq rfl rfl rfl rfl rfl ?_)
              refine rc rfl rfl rfl rfl rfl rfl good95 (c95 t.rows r.id _ hs (by omega)) (CoL.refl _) rfl rfl ?_; (iterate 5 refine rq rfl rfl rfl rfl rfl ?_); refine rg_nil ?_; show HW _ _ _ _ _; refine hw_seq ?_
              refine hw_draw (E := TryzE) Tryzok Tryzmixed [0, 1, 2, 3, 4, 5, 6, 7, 8] ?_; (iterate 4 refine rq rfl rfl rfl rfl rfl ?_); refine rc rfl rfl rfl rfl rfl rfl good98 (c98 r (by omega)) (CoL.refl _) rfl rfl ?_
              refine rm 4 rfl rfl rfl rfl rfl rfl ?_
              refine rg_fcall rfl rfl rfl rfl rfl rfl good97 (c97h t.rows.length (lbd t.rows r.id) 100 4 102 (lf Row.c t.rows) (lf Row.c [r]) rfl lbd_le (by omega)) (CoHCL.refl _) ⟨⟨_, rfl, CoO.refl _⟩, ⟨_, rfl, ⟨fun h => h, rfl, rfl, rfl, lt1b (lt2 (CoP.refl _) (CoP.refl _))⟩⟩, trivial⟩ rfl rfl ?_
              refine rq rfl rfl rfl rfl rfl ?_; refine rs rfl rfl rfl rfl rfl ?_; refine rg_nil ?_; refine ⟨by kernel_rfl, ?_⟩; show HW _ _ _ _ _; refine hw_seq ?_; refine hw_region (E := TryzE) Tryzok ?_
              refine rq rfl rfl rfl rfl rfl ?_; refine rs rfl rfl rfl rfl rfl ?_; refine rq rfl rfl rfl rfl rfl ?_; refine rg_nil ?_; show HW _ _ _ _ _; refine hw_ret ?_; refine ⟨.inr rfl, ?_⟩
              rw [insT_ok hie, ← ins_at hs (rowIx_none (by omega))]
              exact ⟨_, _, _, _, rfl, (by (repeat' apply And.intro) <;> first | trivial | exact Nat.le_of_ble_eq_true rfl | rfl), rfl, (by (repeat' apply And.intro) <;> first | trivial | exact Nat.le_of_ble_eq_true rfl | rfl), ⟨CoC.agg ⟨CoP.refl _, CoP.refl _, CoP.sl (insAt_len lbd_le) (.inl rfl) (fun h => h) (fun i j _ _ => insF_at lbd_le i j), trivial⟩, cci hie.symm, trivial⟩⟩
end Go.Hx
end
section
namespace Go.Hx
open Go.Proofs Go.Lib Go.RowKit
set_option maxHeartbeats 4000000 in
set_option maxRecDepth 100000 in
theorem grow110_some (k : Nat) (hk : 0 < k) (hbig : k * 32 ≤ 140737488355328) (w : World) (ad : Option Addr) :
    Calls Tryz.prog 110 #[.slice ad 0 0, .int .i64 k] w fun e w' => ∃ G ROW, e = .returned (.slice (some ⟨w.heap.size, 0, none⟩) 0 G) ∧ G ≤ maxLen ∧ w' = w.drew.alloc (.cells ROW 45) ∧ ROW.size = G * 2 := by
  obtain ⟨i0, z, hi0, hz0, hzs, hzb, hzc⟩ : ∃ i0 z, Tryz.prog.info? 45 = some i0 ∧ i0.zero = some z ∧ i0.size = 2 ∧ i0.bytes = 32 ∧ z.cells.size = 2 := by
    have h : (Tryz.prog.info? 45).map (fun i => (i.zero.map (fun z => z.cells.size), i.size, i.bytes)) = some (some 2, 2, 32) := by kernel_rfl
    cases hq : Tryz.prog.info? 45 with
    | none => rw [hq] at h; cases h
    | some i0 =>
      rw [hq] at h
      cases hz : i0.zero with
      | none => simp [hz] at h
      | some z => simp [hz] at h; exact ⟨i0, z, rfl, hz, h.2.1, h.2.2, h.1⟩
  have hc : 0 + k ≤ maxLen := by unfold maxLen; omega
  have hold : (Builtin.firstCells i0.size 0 (.slice ad 0 0)).run Tryz.prog w.drew = .ok (([] : List Value)).toArray w.drew := by
    cases ad with
    | none => exact run_firstCells_none w.drew _ _ _ _
    | some a => exact run_firstCells_some w.drew _ 0 a 0 0 [] (by simp) (fun j v hj => by simp at hj)
  obtain ⟨G, hG⟩ : ∃ G, G = grownCap w (0 + k) 0 45 := ⟨_, rfl⟩
  have hGn : 0 + k ≤ G := by rw [hG]; exact grownCap_ge w _ _ _
  have hGm : G ≤ maxLen := by rw [hG]; exact grownCap_le_maxLen w (0 + k) 0 45 hc
  obtain ⟨ROW, hROW⟩ : ∃ ROW : Array Value, ROW = ([] : List Value).toArray ++ Builtin.zeroCells z.cells k ++ Builtin.zeroCells z.cells (G - (0 + k)) := ⟨_, rfl⟩
  have hrz : (Builtin.append_ #[40, 3] 40 #[.slice ad 0 0, .int .i64 (k : Int)]).run Tryz.prog w = .ok (.slice (some ⟨w.heap.size, 0, none⟩) k G) (w.drew.alloc (.cells ROW 45)) := by
    have h := Lib.run_append_grow_zeros w 40 3 40 45 i0 z .i64 .i64 Tryz.underlying40 Tryz.underlying3 hi0 hz0 ad 0 0 [] hold k hk (by omega) (by omega) (by unfold maxLen at hc; omega) (by rw [hzb]; omega) (by rw [hzb, Nat.zero_add]; exact growslice_fits (by omega) hbig)
    rw [← hG, ← hROW] at h
    rw [h]
    simp
  have hRs : ROW.size = G * 2 := by
    rw [hROW]
    simp only [Array.size_append, List.size_toArray, List.length_nil, size_zeroCells, hzc]
    omega
  have mixed := Tryzmixed
  have hcM : G ≤ 9223372036854775807 := by unfold maxLen at hGm; omega
  have hk0 : ¬ ((k : Int) < 0) := by omega
  have hk1 : (0 : Int) < (k : Int) := by omega
  have hw1 : IntKind.i64.wrap (k : Int) = (k : Int) := by rw [IntKind.wrap_i64]; omega
  clear hG hROW hold
  rcases ad with _ | ⟨ab, ao, asp⟩
  all_goals go_enter Tryz.func110, Tryz.ntmps110
  all_goals go_wp2_with (at_builtin; refine Lib.wpList_append_run _ rfl _ _ _ _ rfl _ _ rfl rfl _ _ hrz ?_)
  all_goals go_ret
  all_goals first | exact ⟨G, ROW, rfl, hGm, rfl, hRs⟩ | exact ⟨G, rfl, hGm, ROW, rfl, hRs⟩
theorem grow110_none (w : World) (ad : Option Addr) : Calls Tryz.prog 110 #[.slice ad 0 0, .int .i64 0] w fun e w' => e = .returned (.slice ad 0 0) ∧ w' = w := by
  have mixed := Tryzmixed
  go_enter Tryz.func110, Tryz.ntmps110
  go_wp2
  go_ret
  exact ⟨rfl, rfl⟩
theorem c110h (k a : Nat) (hk : k ≤ 68719476736) (F : Nat → Nat → PV) :
    HFun Tryz.prog 110 [.one (.p (rawP (.slice none 0 0))), .one (.p (.raw (.int .i64 k)))] [] (.v (.one (.ref a 0))) [(a, .arr true 2 45 0 F)] [] := by
  refine hfun_new (by omega) fun w ad => ?_
  rcases Nat.eq_zero_or_pos k with rfl | hk0
  · refine (grow110_none w ad).mono ?_
    rintro e w' ⟨rfl, rfl⟩
    exact ⟨_, rfl, Below.refl _ _, .inl rfl⟩
  · refine (grow110_some k hk0 (by omega) w ad).mono ?_
    rintro e w' ⟨G, ROW, rfl, hG, rfl, hR⟩
    refine ⟨_, rfl, ⟨rfl, rfl, rfl, ?_, fun q hq => ha_old w.drew _ hq⟩, .inr ⟨⟨by simp, .inr ⟨_, G, ROW, rfl, Nat.zero_le _, heap_alloc_new w.drew _, Nat.zero_le _, hG, hR, by simp⟩⟩, fun g hg => ?_⟩⟩
    · show _ ≤ (w.heap.push _).size
      rw [Array.size_push]; omega
    · have : w.heap.size = g := by simpa [blkOf] using hg
      omega
end Go.Hx
end
section
namespace Go.Hx
open Go.Proofs
set_option maxRecDepth 100000
def rwC (l : List Row) : Nat → PV
  | 0 => rows l
  | _ => .any
abbrev rwss (ls : List (List Row)) : PV := psl 1 rwC ls
theorem good110 : goodFn Tryz.prog 110 := ⟨Tryz.f110, Tryz.func110, by kernel_rfl, by kernel_rfl⟩
theorem co_dropI {α : Type} [Inhabited α] {s n k' : Nat} {k : Int} {cl : Bool} {c : α → Nat → PV} {l : List α} (hn : n = l.length) (h : k.toNat = k') : CoP (.sl (less n (some k)) s cl (from_ (lf c l) (some k))) (psl s c (l.drop k')) := by
  subst h hn; exact co_drop
theorem good99 : goodFn Tryz.prog 99 := ⟨Tryz.f99, Tryz.func99, by kernel_rfl, by kernel_rfl⟩
theorem c99 (ls : List (List Row)) (h : ls.flatten.length ≤ 68719476736) : HPure Tryz.prog 99 [pP (rwss ls)] (prOf [pP (rows ls.flatten)]) := by
  refine hpure_of (nt := 36) Tryzok Tryz.func99 rfl rfl (Nat.le_of_ble_eq_true rfl) ?_; refine hw_seq ?_; refine hw_region (E := TryzE) Tryzok ?_; refine rq rfl rfl rfl rfl rfl ?_; refine rg_nil ?_; show HW _ _ _ _ _
  refine hw_seq ?_; refine hw_region (E := TryzE) Tryzok ?_; refine rq rfl rfl rfl rfl rfl ?_; refine rg_nil ?_; show HW _ _ _ _ _; (iterate 2 refine hw_seq ?_); refine hw_bt 0 rfl (fun hn => ?_)
  refine hw_region (E := TryzE) Tryzok ?_; (iterate 3 refine rq rfl rfl rfl rfl rfl ?_); refine rg_nil ?_; show HW _ _ _ _ _; refine hw_block ?_
  refine hw_loopK (ι := Nat) ⟨[(0, some _), (9, some _), (10, some _)], []⟩ ⟨⟨⟨_, rfl, CoR.refl _⟩, ⟨_, rfl, CoR.refl _⟩, ⟨_, rfl, CoR.refl _⟩, trivial⟩, trivial⟩ (fun i => ⟨[(3, some (vI (ls.take i).flatten.length)), (11, some (vI i))], []⟩) (fun i => i ≤ ls.length) (fun i => ls.length - i) (0) (Nat.zero_le _) ⟨⟨⟨_, rfl, (by first | exact CoR.refl _ | exact coi (by omega) | exact cob (by simp_all))⟩, ⟨_, rfl, (by first | exact CoR.refl _ | exact coi (by omega) | exact cob (by simp_all))⟩, trivial⟩, trivial⟩ ?_
  rintro i hi
  refine hw_seq ?_; refine hw_region (E := TryzE) Tryzok ?_; refine rq rfl rfl rfl rfl rfl ?_; refine rg_nil ?_; show HW _ _ _ _ _; refine hw_seq ?_; refine hw_cond _ rfl (fun r0 => ?_) (fun r0 => ?_)
  · skip
    have h0 := r0
    have h0 := of_decide_eq_true h0
    try simp only [Int.toNat_natCast] at h0
    have hts : (ls.take (i + 1)).flatten.length = (ls.take i).flatten.length + (ls.getD ((i : Nat) : Int).toNat default).length := by rw [tsf _ _ (by omega), List.length_append]; rfl
    have hfl : (ls.take i).flatten.length + (ls.getD ((i : Nat) : Int).toNat default).length ≤ ls.flatten.length := flat_take_le ls i (by omega)
    refine hw_skip ?_; show HW _ _ _ _ _; refine hw_seq ?_; refine hw_block ?_; refine hw_seq ?_; refine hw_region (E := TryzE) Tryzok ?_; (iterate 3 refine rq rfl rfl rfl rfl rfl ?_); refine rg_nil ?_; show HW _ _ _ _ _
    refine hw_seq ?_; refine hw_region (E := TryzE) Tryzok ?_; (iterate 5 refine rq rfl rfl rfl rfl rfl ?_); refine rg_nil ?_; show HW _ _ _ _ _; refine hw_seq ?_; refine hw_region (E := TryzE) Tryzok ?_
    (iterate 2 refine rq rfl rfl rfl rfl rfl ?_); refine rg_nil ?_; show HW _ _ _ _ _; refine hw_cond _ rfl (fun r1 => ?_) (fun r1 => ?_)
    · skip
      have h1 := r1
      have h1 := of_decide_eq_true h1
      try simp only [Int.toNat_natCast] at h1
      exfalso
      omega
    · skip
      have h1 := r1
      have h1 := of_decide_eq_false h1
      try simp only [Int.toNat_natCast] at h1
      refine hw_skip ?_; show HW _ _ _ _ _; refine hw_region (E := TryzE) Tryzok ?_; (iterate 2 refine rq rfl rfl rfl rfl rfl ?_); refine rg_nil ?_; refine ⟨i + 1, ?_, ?_, ?_⟩
      · show i + 1 ≤ _
        omega
      · first | omega | (dsimp only; omega)
      · exact ⟨⟨⟨_, rfl, (by first | exact CoR.refl _ | exact coi (by omega) | exact cob (by simp_all))⟩, ⟨_, rfl, (by first | exact CoR.refl _ | exact coi (by omega) | exact cob (by simp_all))⟩, ⟨_, rfl, CoR.refl _⟩, ⟨_, rfl, CoR.refl _⟩, ⟨_, rfl, CoR.refl _⟩, trivial⟩, trivial⟩
  · skip
    have h0 := r0
    have h0 := of_decide_eq_false h0
    try simp only [Int.toNat_natCast] at h0
    obtain rfl : i = ls.length := by omega
    have hfe : (ls.take ls.length).flatten.length = ls.flatten.length := by rw [List.take_length]
    refine hw_exit ?_; show HW _ _ _ _ _; refine hw_seq ?_; refine hw_region (E := TryzE) Tryzok ?_; refine rq rfl rfl rfl rfl rfl ?_
    refine rg_fcall rfl rfl rfl rfl rfl rfl good110 (c110h (ls.take ls.length).flatten.length 100 (by omega) (lf Row.c [])) (CoHCL.refl _) trivial rfl rfl ?_; refine rq rfl rfl rfl rfl rfl ?_; refine rg_nil ?_; show HW _ _ _ _ _
    (iterate 2 refine hw_seq ?_); refine hw_region (E := TryzE) Tryzok ?_; (iterate 3 refine rq rfl rfl rfl rfl rfl ?_); refine rg_nil ?_; show HW _ _ _ _ _; refine hw_block ?_
    refine hw_loopK (ι := Nat) ⟨[(25, some _), (26, some _)], []⟩ ⟨⟨⟨_, rfl, CoR.refl _⟩, ⟨_, rfl, CoR.refl _⟩, trivial⟩, trivial⟩ (fun i => ⟨[(6, some (.v (.one (.ref 100 (ls.take i).flatten.length)))), (27, some (vI i))], [(100, some (.arr true 2 45 (ls.take i).flatten.length (lf Row.c (ls.take i).flatten)))]⟩) (fun i => i ≤ ls.length) (fun i => ls.length - i) (0) (Nat.zero_le _) ⟨⟨⟨_, rfl, (by first | exact CoR.refl _ | exact coi (by omega) | exact cob (by simp_all))⟩, ⟨_, rfl, (by first | exact CoR.refl _ | exact coi (by omega) | exact cob (by simp_all))⟩, trivial⟩, ⟨⟨_, rfl, CoO.refl _⟩, trivial⟩⟩ ?_
    rintro i hi
    refine hw_seq ?_; refine hw_region (E := TryzE) Tryzok ?_; refine rq rfl rfl rfl rfl rfl ?_; refine rg_nil ?_; show HW _ _ _ _ _; refine hw_seq ?_; refine hw_cond _ rfl (fun r2 => ?_) (fun r2 => ?_)
    · skip
      have h2 := r2
      have h2 := of_decide_eq_true h2
      try simp only [Int.toNat_natCast] at h2
      have hts : (ls.take (i + 1)).flatten.length = (ls.take i).flatten.length + (ls.getD ((i : Nat) : Int).toNat default).length := by rw [tsf _ _ (by omega), List.length_append]; rfl
      have hfl : (ls.take i).flatten.length + (ls.getD ((i : Nat) : Int).toNat default).length ≤ ls.flatten.length := flat_take_le ls i (by omega)
      refine hw_skip ?_; show HW _ _ _ _ _; refine hw_seq ?_; refine hw_block ?_; refine hw_seq ?_; refine hw_region (E := TryzE) Tryzok ?_; (iterate 3 refine rq rfl rfl rfl rfl rfl ?_); refine rg_nil ?_; show HW _ _ _ _ _
      refine hw_region (E := TryzE) Tryzok ?_; (iterate 2 refine rq rfl rfl rfl rfl rfl ?_); refine ra 0 true rfl rfl rfl rfl rfl rfl ?_; refine rq rfl rfl rfl rfl rfl ?_; refine rg_nil ?_; show HW _ _ _ _ _
      refine hw_region (E := TryzE) Tryzok ?_; (iterate 2 refine rq rfl rfl rfl rfl rfl ?_); refine rg_nil ?_; refine ⟨i + 1, ?_, ?_, ?_⟩
      · show i + 1 ≤ _
        omega
      · first | omega | (dsimp only; omega)
      · exact ⟨⟨⟨_, rfl, (CoR.of_eq (by rw [hts]))⟩, ⟨_, rfl, (by first | exact CoR.refl _ | exact coi (by omega) | exact cob (by simp_all))⟩, ⟨_, rfl, CoR.refl _⟩, ⟨_, rfl, CoR.refl _⟩, trivial⟩, ⟨⟨_, rfl, (by rw [tsf _ _ (by omega)]; exact co_app _ (fun h => h) rfl (fun i j hi hj => CoP.refl _))⟩, trivial⟩⟩
    · skip
      have h2 := r2
      have h2 := of_decide_eq_false h2
      try simp only [Int.toNat_natCast] at h2
      obtain rfl : i = ls.length := by omega
      refine hw_exit ?_; show HW _ _ _ _ _; refine hw_seq ?_; refine hw_region (E := TryzE) Tryzok ?_; (iterate 2 refine rq rfl rfl rfl rfl rfl ?_); refine rg_nil ?_; show HW _ _ _ _ _; refine hw_ret ?_; refine ⟨.inr rfl, ?_⟩
      rw [show ls.flatten = (ls.take ls.length).flatten by rw [List.take_length]]
      exact ⟨_, _, _, _, rfl, (by (repeat' apply And.intro) <;> first | trivial | exact Nat.le_of_ble_eq_true rfl | rfl), rfl, (by (repeat' apply And.intro) <;> first | trivial | exact Nat.le_of_ble_eq_true rfl | rfl), CoL.refl _⟩
theorem good71 : goodFn Tryz.prog 71 := ⟨Tryz.f71, Tryz.func71, by kernel_rfl, by kernel_rfl⟩
theorem c71 (t : Tbl) (id : Int) : HPure Tryz.prog 71 [t.pc, pI id] (prOf [(delT t id).pc, pI (delErr t id)]) := by
  refine hpure_of (nt := 37) Tryzok Tryz.func71 rfl rfl (Nat.le_of_ble_eq_true rfl) ?_; refine hw_seq ?_; refine hw_region (E := TryzE) Tryzok ?_; refine rm 0 rfl rfl rfl rfl rfl rfl ?_; refine rm 1 rfl rfl rfl rfl rfl rfl ?_
  refine rq rfl rfl rfl rfl rfl ?_; refine rg_nil ?_; show HW _ _ _ _ _; (iterate 2 refine hw_seq ?_); refine hw_region (E := TryzE) Tryzok ?_; refine rq rfl rfl rfl rfl rfl ?_
  refine rc rfl rfl rfl rfl rfl rfl good88 (c88 _) (CoL.refl _) rfl rfl ?_; refine rq rfl rfl rfl rfl rfl ?_; refine rg_nil ?_; show HW _ _ _ _ _; refine hw_seq ?_; refine hw_region (E := TryzE) Tryzok ?_
  (iterate 2 refine rq rfl rfl rfl rfl rfl ?_); refine rg_nil ?_; show HW _ _ _ _ _; refine hw_cond _ rfl (fun r0 => ?_) (fun r0 => ?_)
  · skip
    have h0 := r0
    have h0 := of_decide_eq_false (not_t h0)
    try simp only [Int.toNat_natCast] at h0
    refine hw_seq ?_; refine hw_region (E := TryzE) Tryzok ?_; (iterate 2 refine rq rfl rfl rfl rfl rfl ?_); refine rs rfl rfl rfl rfl rfl ?_; refine rq rfl rfl rfl rfl rfl ?_; refine rg_nil ?_; show HW _ _ _ _ _; refine hw_ret ?_
    refine ⟨.inr rfl, ?_⟩
    have he : delErr t id = tblErr t := by unfold delErr; rw [if_pos (by assumption)]
    rw [delT_err he (by first | assumption | omega | decide)]
    exact ⟨_, _, _, _, rfl, (by (repeat' apply And.intro) <;> first | trivial | exact Nat.le_of_ble_eq_true rfl | rfl), rfl, (by (repeat' apply And.intro) <;> first | trivial | exact Nat.le_of_ble_eq_true rfl | rfl), ⟨CoC.agg ⟨CoP.refl _, co_nil, co_nil, trivial⟩, cci he.symm, trivial⟩⟩
  · skip
    have h0 := r0
    have h0 := of_decide_eq_true (not_f h0)
    try simp only [Int.toNat_natCast] at h0
    have hT := tok_iff.1 (show tblErr t = 0 by simpa using h0)
    have hok := hT.ok
    refine hw_skip ?_; show HW _ _ _ _ _; refine hw_seq ?_; refine hw_region (E := TryzE) Tryzok ?_; (iterate 2 refine rq rfl rfl rfl rfl rfl ?_); refine rc rfl rfl rfl rfl rfl rfl good68 (c68 _ _) (CoL.refl _) rfl rfl ?_
    (iterate 5 refine rq rfl rfl rfl rfl rfl ?_); refine rg_nil ?_; show HW _ _ _ _ _; (iterate 2 refine hw_seq ?_); refine hw_region (E := TryzE) Tryzok ?_; (iterate 2 refine rq rfl rfl rfl rfl rfl ?_); refine rg_nil ?_
    show HW _ _ _ _ _; refine hw_cond _ rfl (fun r1 => ?_) (fun r1 => ?_)
    · skip
      have h1 := r1
      have h1 := not_t h1
      have hfd := of_decide_eq_false h1
      refine hw_seq ?_; refine hw_region (E := TryzE) Tryzok ?_; refine rq rfl rfl rfl rfl rfl ?_; refine rs rfl rfl rfl rfl rfl ?_; refine rq rfl rfl rfl rfl rfl ?_; refine rg_nil ?_; show HW _ _ _ _ _; refine hw_ret ?_
      refine ⟨.inr rfl, ?_⟩
      have he : delErr t id = 4 := by unfold delErr; rw [if_neg (by omega), if_neg (by omega)]
      rw [delT_err he (by first | assumption | omega | decide)]
      exact ⟨_, _, _, _, rfl, (by (repeat' apply And.intro) <;> first | trivial | exact Nat.le_of_ble_eq_true rfl | rfl), rfl, (by (repeat' apply And.intro) <;> first | trivial | exact Nat.le_of_ble_eq_true rfl | rfl), ⟨CoC.agg ⟨CoP.refl _, co_nil, co_nil, trivial⟩, cci he.symm, trivial⟩⟩
    · skip
      have h1 := r1
      have h1 := not_f h1
      have hfd := of_decide_eq_true h1
      have hix := row_at hfd
      refine hw_skip ?_; show HW _ _ _ _ _; refine hw_seq ?_
      have he : delErr t id = 0 := by unfold delErr; rw [if_neg (by omega), if_pos (by assumption)]
      have hnr := hT.nr
      have hll : ([t.rows.take (max (rowIx t.rows id) 0).toNat, t.rows.drop (max (rowIx t.rows id) 0 + 1).toNat].flatten).length ≤ 68719476736 := by simp; omega
      refine hw_draw (E := TryzE) Tryzok Tryzmixed [0, 1, 2, 3, 4, 5, 6, 7, 8, 9, 10, 11, 12, 13, 14] ?_; (iterate 10 refine rq rfl rfl rfl rfl rfl ?_); refine rm 2 rfl rfl rfl rfl rfl rfl ?_
      refine rg_fcall rfl rfl rfl rfl rfl rfl good99 (HPure.eat (hcs := [.one (.ref 2 2)]) (o1 := [(2, .arr true 1 40 2 (lf rwC [t.rows.take (max (rowIx t.rows id) 0).toNat, t.rows.drop (max (rowIx t.rows id) 0 + 1).toNat]))]) (c99 [t.rows.take (max (rowIx t.rows id) 0).toNat, t.rows.drop (max (rowIx t.rows id) 0 + 1).toNat] hll) rfl (by (repeat' apply And.intro) <;> first | trivial | rfl) (CoL.refl _)) (CoHCL.refl _) ⟨⟨_, rfl, ⟨fun h => h, rfl, rfl, rfl, fun i j hi hj => (by have hi : i < 2 := hi; have hj : j < 1 := hj; obtain rfl : j = 0 := (by omega); rcases (show i = 0 ∨ i = 1 by omega) with rfl | rfl; exact co_takeI rfl (by omega); exact co_dropI rfl rfl)⟩⟩, trivial⟩ rfl rfl ?_
      refine rc rfl rfl rfl rfl rfl rfl good94 (c94 t [t.rows.take (max (rowIx t.rows id) 0).toNat, t.rows.drop (max (rowIx t.rows id) 0 + 1).toNat].flatten hok.1 hll (fun j hj => (hok.2.2 : rowsOk t.rows).sub (fun x hx => (by simp only [List.flatten_cons, List.flatten_nil, List.append_nil] at hx; exact (List.mem_append.1 hx).elim (fun h => List.mem_of_mem_take h) (fun h => List.mem_of_mem_drop h))) j hj)) (CoL.refl _) rfl rfl ?_
      refine rs rfl rfl rfl rfl rfl ?_; refine rq rfl rfl rfl rfl rfl ?_; refine rg_nil ?_; refine ⟨by kernel_rfl, ?_⟩; show HW _ _ _ _ _; refine hw_ret ?_; refine ⟨.inr rfl, ?_⟩
      have hL : [t.rows.take (max (rowIx t.rows id) 0).toNat, t.rows.drop (max (rowIx t.rows id) 0 + 1).toNat].flatten = t.rows.eraseIdx (rowIx t.rows id).toNat := by rw [← erase_eq, show (max (rowIx t.rows id) 0).toNat = (rowIx t.rows id).toNat from by omega, show (max (rowIx t.rows id) 0 + 1).toNat = (rowIx t.rows id).toNat + 1 from by omega]; simp
      rw [delT_ok he, ← hL]
      exact ⟨_, _, _, _, rfl, (by (repeat' apply And.intro) <;> first | trivial | exact Nat.le_of_ble_eq_true rfl | rfl), rfl, (by (repeat' apply And.intro) <;> first | trivial | exact Nat.le_of_ble_eq_true rfl | rfl), ⟨CoC.refl _, cci he.symm, trivial⟩⟩
end Go.Hx
end
