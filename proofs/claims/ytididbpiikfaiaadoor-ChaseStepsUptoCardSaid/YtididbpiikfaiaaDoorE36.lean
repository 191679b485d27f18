/- A part of the proof: lemmas for the theorem of this claim, merged by a program of ours out of Cc3, X30, Ch22, X26, Ch25. -/
import Derived.Test.YtididbpiikfaiaaDoorE33
import Derived.Test.YtididbpiikfaiaaDoorE35
set_option linter.all false
section
namespace Go.Hx
section
variable {n : Int} {ps : List AS} {p m : List Fd} {l l0 : List Rw} {σ : Int → Int}
theorem sub_orI {a b c : AS} (h : sub a c) (k : sub b c) : sub (a ||| b) c := sub_bit.2 fun i hi e => by
  rw [BitVec.getLsbD_or, Bool.or_eq_true] at e
  rcases e with e | e
  · exact sub_bit.1 h i hi e
  · exact sub_bit.1 k i hi e
theorem sub_andl {a b : AS} : sub (a &&& b) a := sub_bit.2 fun i hi e => by
  rw [BitVec.getLsbD_and, Bool.and_eq_true] at e
  exact e.1
theorem LR_mem {N : Nat} {l l' : List Rw} (h : ∀ r, r ∈ l ↔ r ∈ l') {r : Rw} : LR N p m l r ↔ LR N p m l' r :=
  ⟨fun k E R hm hl => k E R hm fun r hr => hl r ((h r).1 hr), fun k E R hm hl => k E R hm fun r hr => hl r ((h r).2 hr)⟩
theorem stC_ge (h0 : 0 ≤ n) {c : Nat} {z : Int} (h : z ∈ stC n ps c) : z = (c : Int) ∨ n ≤ z := by
  unfold stC at h
  split at h
  · obtain ⟨i, _, rfl⟩ := List.mem_map.1 h
    unfold stV
    split
    · exact .inl rfl
    · right
      have := Int.mul_nonneg (show (0 : Int) ≤ (i : Int) by omega) h0
      omega
  · simp at h
theorem Ch.first (h0 : 0 ≤ n) (h : Ch n.toNat p m (canon (stRows n ps)) l σ) : (firstZ n).map σ = firstZ n := by
  refine map_fix fun z hz => ?_
  unfold firstZ at hz
  obtain ⟨c, hc, rfl⟩ := List.mem_map.1 hz
  have hc := List.mem_range.1 hc
  have h1 := h.sym (c : Int) _ _ (mdl_cols (stC n ps) (stC_dis h0)) fun r hr => stRows_col (mem_canon.1 hr)
  rcases h1 with h1 | ⟨i, h1, h2⟩
  · exact h1.symm
  · have h3 := (stC_mod h0 h1).2
    have h4 := Int.emod_eq_of_lt (a := (c : Int)) (b := n) (by omega) (by omega)
    have h5 : i = c := by omega
    subst h5
    have h6 := h.le (i : Int)
    rcases stC_ge h0 h2 with h7 | h7
    · exact h7
    · omega
theorem any_first {r : Rw} : (l.any fun x => decide (x = r)) = decide (r ∈ l) := by
  rw [Bool.eq_iff_iff, List.any_eq_true, decide_eq_true_iff]
  constructor
  · rintro ⟨x, hx, e⟩
    rw [← of_decide_eq_true e]; exact hx
  · intro h
    exact ⟨r, h, decide_eq_true rfl⟩
theorem chase_first (hk : ps.length ≤ 3) (hn : n ≤ 5) (hb : bErr n p m = 0) :
    ∃ sts lend, chaseE FU n (canon (stRows n ps)) p m = (sts, (n, lend), 0) ∧ (firstZ n ∈ lend ↔ LR n.toNat p m (stRows n ps) (firstZ n)) := by
  obtain ⟨h0, h16, _⟩ := bErr_ok hb
  have hs := start_small (p := p) (m := m) h0 hk hn
  have hT : tok n (canon (stRows n ps)) = true := by
    refine tok_canon h0 h16 ?_ fun r hr => ?_
    · have := canon_len (stRows n ps)
      rw [stRows_len] at this
      omega
    · obtain ⟨h1, h2⟩ := stRows_col hr
      refine ⟨h1, fun z hz => ?_⟩
      obtain ⟨i, hi, rfl⟩ := mem_at hz
      rcases stC_ge h0 (h2 i (by omega)) with h3 | h3 <;> omega
  obtain ⟨sts, lend, σ, h1, h2, h3, h4, _⟩ := chase_tr hT hs hb hT Ch.start
  refine ⟨sts, lend, h1, ?_⟩
  rw [h2.mem h3 (fun r hr => (tok_wel hT r hr).1) h4, LR_mem (l' := stRows n ps) fun r => mem_canon]
  exact ⟨fun h => h.1, fun h => ⟨h, h2.first h0⟩⟩
def swI (n z : Int) : Int := if n ≤ z ∧ z < 2 * n then z + n else if 2 * n ≤ z ∧ z < 3 * n then z - n else z
theorem swI_swI (n z : Int) : swI n (swI n z) = z := by
  unfold swI
  split
  · rename_i h
    rw [if_neg (by omega), if_pos (by omega)]
    omega
  · split
    · rename_i h
      rw [if_pos (by omega)]
      omega
    · rfl
theorem swI_row (h0 : 0 ≤ n) {q : AS} : (stR n 0 q).map (swI n) = stR n 1 q := by
  unfold stR
  rw [List.map_map]
  refine List.map_congr_left fun c hc => ?_
  have hc := List.mem_range.1 hc
  show swI n (stV n 0 q c) = stV n 1 q c
  unfold stV swI
  by_cases h : hasI q (c : Int) = true
  · rw [if_pos h, if_pos h, if_neg (by omega), if_neg (by omega)]
  · rw [if_neg h, if_neg h]
    simp only [Int.natCast_zero, Int.zero_mul, Int.natCast_one, Int.one_mul]
    rw [if_pos (by omega)]
    omega
theorem map_swI (r : Rw) : (r.map (swI n)).map (swI n) = r := by
  rw [List.map_map]
  conv => rhs; rw [← List.map_id r]
  exact List.map_congr_left fun z _ => swI_swI n z
theorem swI_row' (h0 : 0 ≤ n) {q : AS} : (stR n 1 q).map (swI n) = stR n 0 q := by
  rw [← swI_row h0, map_swI]
theorem mdl_sw {N : Nat} {E : Int → Int → Prop} {R : Rw → Prop} (h : Mdl N p m E R) (f : Int → Int) : Mdl N p m (fun x y => E (f x) (f y)) (fun r => R (r.map f)) where
  refl x := h.refl _
  symm k := h.symm k
  trans k k2 := h.trans k k2
  len k := by have := h.len k; rwa [List.length_map] at this
  cong {r r'} k e k2 := h.cong k (by simp [e]) fun i hi => by
    rw [List.length_map] at hi
    rw [getD_map hi, getD_map (by omega)]
    exact k2 i hi
  fd {x} hx {a b} ha hb hl := fun i hi hs => by
    have la := h.len ha
    have lb := h.len hb
    rw [List.length_map] at la lb
    have := h.fd hx ha hb (fun j hj hh => by
      rw [List.length_map] at hj
      rw [getD_map hj, getD_map (by omega)]
      exact hl j hj hh) i (by rw [List.length_map]; exact hi) hs
    rwa [getD_map hi, getD_map (by omega)] at this
  mv {x} hx {a b} ha hb hl := by
    have la := h.len ha
    have lb := h.len hb
    rw [List.length_map] at la lb
    have := h.mv hx ha hb (fun j hj hh => by
      rw [List.length_map] at hj
      rw [getD_map hj, getD_map (by omega)]
      exact hl j hj hh)
    rwa [map_mixZ (by omega)] at this
theorem swI_first (h0 : 0 ≤ n) : (firstZ n).map (swI n) = firstZ n := by
  refine map_fix fun z hz => ?_
  unfold firstZ at hz
  obtain ⟨c, hc, rfl⟩ := List.mem_map.1 hz
  have hc := List.mem_range.1 hc
  unfold swI
  rw [if_neg (by omega), if_neg (by omega)]
theorem LR_sw1 (h0 : 0 ≤ n) {a b : AS} (h : LR n.toNat p m (stRows n [a, b]) (firstZ n)) : LR n.toNat p m (stRows n [b, a]) (firstZ n) := fun E R hm hl => by
  have := h _ _ (mdl_sw hm (swI n)) fun r hr => by
    have hr : r = stR n 0 a ∨ r = stR n 1 b := by
      unfold stRows at hr
      simpa [List.range_succ] using hr
    rcases hr with rfl | rfl
    · show R ((stR n 0 a).map (swI n))
      rw [swI_row h0]
      refine hl _ ?_
      unfold stRows
      simp [List.range_succ]
    · show R ((stR n 1 b).map (swI n))
      rw [swI_row' h0]
      refine hl _ ?_
      unfold stRows
      simp [List.range_succ]
  have h2 : R ((firstZ n).map (swI n)) := this
  rwa [swI_first h0] at h2
theorem LR_sw (h0 : 0 ≤ n) {a b : AS} : LR n.toNat p m (stRows n [a, b]) (firstZ n) ↔ LR n.toNat p m (stRows n [b, a]) (firstZ n) := ⟨LR_sw1 h0, LR_sw1 h0⟩
theorem impl_told (hn : n ≤ 5) (hb : bErr n p m = 0) {x : Fd} (hu : inU n x = true) : ∃ b, implE n p m x = (b, 0) ∧ (b = true ↔ LR n.toNat p m (stRows n (goalS n x)) (firstZ n)) := by
  obtain ⟨h0, h16, _⟩ := bErr_ok hb
  obtain ⟨h1, h2⟩ := (inU_iff h0 h16).1 hu
  have hs : startE n (goalS n x) = (n, canon (stRows n (goalS n x)), 0) := startE_3 (by omega) (by simp) fun j hj => by
    have q1 : sub (x.lhs ||| x.rhs) (fullI n) := sub_orI h1 h2
    have q2 : sub (x.lhs ||| (fullI n &&& ~~~x.rhs)) (fullI n) := sub_orI h1 sub_andl
    rcases (by have : j < 2 := hj; omega : j = 0 ∨ j = 1) with rfl | rfl
    · exact (p_shr h0 h16).1 q1
    · exact (p_shr h0 h16).1 q2
  obtain ⟨sts, lend, e, h3⟩ := chase_first (ps := goalS n x) (by simp) hn hb
  refine ⟨lend.any (fun r => decide (r = firstZ n)), ?_, ?_⟩
  · unfold implE
    rw [if_pos hb, if_pos hu, hs]
    simp only
    rw [if_pos trivial, e]
    simp only
    rw [if_pos trivial]
  · rw [any_first, decide_eq_true_iff, h3]
abbrev cplF (n : Int) (x : Fd) : Fd := ⟨x.lhs, fullI n &&& ~~~(x.lhs ||| x.rhs)⟩
theorem cpl_goal {x : Fd} (h1 : sub x.lhs (fullI n)) (h2 : sub x.rhs (fullI n)) : goalS n (cplF n x) = [x.lhs ||| (fullI n &&& ~~~x.rhs), x.lhs ||| x.rhs] := by
  have e1 : x.lhs ||| (fullI n &&& ~~~(x.lhs ||| x.rhs)) = x.lhs ||| (fullI n &&& ~~~x.rhs) := by
    ext i hi
    simp only [BitVec.getElem_or, BitVec.getElem_and, BitVec.getElem_not]
    cases x.lhs[i] <;> cases x.rhs[i] <;> cases (fullI n)[i] <;> rfl
  have e2 : x.lhs ||| (fullI n &&& ~~~(fullI n &&& ~~~(x.lhs ||| x.rhs))) = x.lhs ||| x.rhs := by
    ext i hi
    have q1 := sub_bit.1 h1 i hi
    have q2 := sub_bit.1 h2 i hi
    rw [BitVec.getLsbD_eq_getElem hi, BitVec.getLsbD_eq_getElem hi] at q1 q2
    simp only [BitVec.getElem_or, BitVec.getElem_and, BitVec.getElem_not]
    revert q1 q2
    cases x.lhs[i] <;> cases x.rhs[i] <;> cases (fullI n)[i] <;> simp
  show [_, _] = _
  rw [e1, e2]
theorem cpl_in (h0 : 0 ≤ n) (h16 : n ≤ 16) {x : Fd} (hu : inU n x = true) : inU n (cplF n x) = true := (inU_iff h0 h16).2 ⟨((inU_iff h0 h16).1 hu).1, sub_andl⟩
theorem impl_cpl (hn : n ≤ 5) (hb : bErr n p m = 0) {x : Fd} (hu : inU n x = true) : ∃ b, implE n p m x = (b, 0) ∧ implE n p m (cplF n x) = (b, 0) := by
  obtain ⟨h0, h16, _⟩ := bErr_ok hb
  obtain ⟨h1, h2⟩ := (inU_iff h0 h16).1 hu
  obtain ⟨b, e, h⟩ := impl_told hn hb hu
  obtain ⟨c, e', h'⟩ := impl_told hn hb (cpl_in h0 h16 hu)
  refine ⟨b, e, ?_⟩
  rw [e']
  rw [cpl_goal h1 h2] at h'
  have h3 : b = true ↔ c = true := by rw [h, h']; exact LR_sw h0
  rw [Bool.eq_iff_iff.2 h3]
end
end Go.Hx
end
section
namespace Go.Hx
open Go.Proofs
set_option maxRecDepth 100000
theorem good29 : goodFn Tryd.prog 29 := ⟨Tryd.f29, Tryd.func29, by kernel_rfl, by kernel_rfl⟩
theorem cRImplT (n : Int) (p m : List Fd) (x : Fd) : HPure Tryd.prog 29 [pI n, pP (fdl p), pP (fdl m), x.pc] (prOf [pB (implE n p m x).1, pI (implE n p m x).2]) := by
  refine hpure_of (nt := 69) Trydok Tryd.func29 rfl rfl (Nat.le_of_ble_eq_true rfl) ?_; refine hw_seq ?_; refine hw_region (E := TrydE) Trydok ?_; refine rm 0 rfl rfl rfl rfl rfl rfl ?_; (iterate 2 refine rq rfl rfl rfl rfl rfl ?_)
  refine rg_nil ?_; show HW _ _ _ _ _; (iterate 2 refine hw_seq ?_); refine hw_region (E := TrydE) Trydok ?_; (iterate 3 refine rq rfl rfl rfl rfl rfl ?_)
  refine rc rfl rfl rfl rfl rfl rfl good51 (cRBValid n p m) (CoL.refl _) rfl rfl ?_; refine rq rfl rfl rfl rfl rfl ?_; refine rg_nil ?_; show HW _ _ _ _ _; refine hw_seq ?_; refine hw_region (E := TrydE) Trydok ?_
  (iterate 2 refine rq rfl rfl rfl rfl rfl ?_); refine rg_nil ?_; show HW _ _ _ _ _; refine hw_cond _ rfl (fun r0 => ?_) (fun r0 => ?_)
  · skip
    have h0 := r0
    have h0 := of_decide_eq_false (not_t h0)
    try simp only [Int.toNat_natCast] at h0
    refine hw_seq ?_; refine hw_region (E := TrydE) Trydok ?_; (iterate 3 refine rq rfl rfl rfl rfl rfl ?_); refine rg_nil ?_; show HW _ _ _ _ _; refine hw_ret ?_; refine ⟨.inr rfl, ?_⟩
    have he : implE n p m x = (false, bErr n p m) := if_neg (by assumption)
    exact ⟨_, _, _, _, rfl, (by (repeat' apply And.intro) <;> first | trivial | exact Nat.le_of_ble_eq_true rfl | rfl), rfl, (by (repeat' apply And.intro) <;> first | trivial | exact Nat.le_of_ble_eq_true rfl | rfl), by rw [he]; exact CoL.refl _⟩
  · skip
    have h0 := r0
    have h0 := of_decide_eq_true (not_f h0)
    try simp only [Int.toNat_natCast] at h0
    have hbe : bErr n p m = 0 := by assumption
    obtain ⟨hz0, hz1, _, _⟩ := bErr_ok hbe
    refine hw_skip ?_; show HW _ _ _ _ _; refine hw_seq ?_; refine hw_region (E := TrydE) Trydok ?_; refine rq rfl rfl rfl rfl rfl ?_; refine rc rfl rfl rfl rfl rfl rfl good30 (cRFull n) (CoL.refl _) rfl rfl ?_
    refine rq rfl rfl rfl rfl rfl ?_; refine rg_nil ?_; show HW _ _ _ _ _; (iterate 2 refine hw_seq ?_); refine hw_region (E := TrydE) Trydok ?_; (iterate 6 refine rq rfl rfl rfl rfl rfl ?_)
    refine rc rfl rfl rfl rfl rfl rfl good44 (cRSub (x.lhs ||| x.rhs) (fullI n)) (⟨cci (by rw [bOr]), CoC.refl _, trivial⟩) rfl rfl ?_; refine rq rfl rfl rfl rfl rfl ?_; refine rg_nil ?_; show HW _ _ _ _ _
    refine hw_cond _ rfl (fun r1 => ?_) (fun r1 => ?_)
    · skip
      have h1 := r1
      have h1 := not_t h1
      have hu : ¬ inU n x = true := fun e => by have := (inU_sub hz0 hz1).1 e; simp_all
      refine hw_seq ?_; refine hw_region (E := TrydE) Trydok ?_; (iterate 2 refine rq rfl rfl rfl rfl rfl ?_); refine rg_nil ?_; show HW _ _ _ _ _; refine hw_ret ?_; refine ⟨.inr rfl, ?_⟩
      have he : implE n p m x = (false, 1) := (if_pos hbe).trans (if_neg hu)
      exact ⟨_, _, _, _, rfl, (by (repeat' apply And.intro) <;> first | trivial | exact Nat.le_of_ble_eq_true rfl | rfl), rfl, (by (repeat' apply And.intro) <;> first | trivial | exact Nat.le_of_ble_eq_true rfl | rfl), by rw [he]; exact CoL.refl _⟩
    · skip
      have h1 := r1
      have h1 := not_f h1
      have hu : inU n x = true := (inU_sub hz0 hz1).2 (by simp_all)
      refine hw_skip ?_; show HW _ _ _ _ _; refine hw_seq ?_; refine hw_regionN [0, 1, 2, 3, 4, 5, 6, 7, 8, 9, 10, 11, 12, 13] [14, 15, 16, 17, 18, 19, 20] rfl ?_; refine rn_reg (E := TrydE) Trydok ?_
      (iterate 13 refine rq rfl rfl rfl rfl rfl ?_); refine rm 1 rfl rfl rfl rfl rfl rfl ?_; refine rg_nil ?_; refine rn_he ?_; refine he_freeze 46 rfl rfl rfl ?_; refine he_done ?_
      refine rn_reg (E := TrydE) (L1 := [14, 15, 16, 17, 18, 19, 20]) (L2 := []) Trydok ?_; refine rc rfl rfl rfl rfl rfl rfl good21 (cRStart n (goalS n x)) (⟨CoC.refl _, CoC.one (co_lit2 co_g1 co_g3), trivial⟩) rfl rfl ?_
      (iterate 3 refine rq rfl rfl rfl rfl rfl ?_); refine rm 2 rfl rfl rfl rfl rfl rfl ?_; refine rs rfl rfl rfl rfl rfl ?_; refine rq rfl rfl rfl rfl rfl ?_; refine rg_nil ?_; refine rn_nil ?_; show HW _ _ _ _ _
      (iterate 2 refine hw_seq ?_); refine hw_region (E := TrydE) Trydok ?_; (iterate 2 refine rq rfl rfl rfl rfl rfl ?_); refine rg_nil ?_; show HW _ _ _ _ _; refine hw_cond _ rfl (fun r2 => ?_) (fun r2 => ?_)
      · skip
        have h2 := r2
        have h2 := of_decide_eq_false (not_t h2)
        try simp only [Int.toNat_natCast] at h2
        refine hw_seq ?_; refine hw_region (E := TrydE) Trydok ?_; (iterate 3 refine rq rfl rfl rfl rfl rfl ?_); refine rg_nil ?_; show HW _ _ _ _ _; refine hw_ret ?_; refine ⟨.inr rfl, ?_⟩
        have he : implE n p m x = (false, (startE n (goalS n x)).2.2) := (if_pos hbe).trans ((if_pos hu).trans (if_neg (by assumption)))
        exact ⟨_, _, _, _, rfl, (by (repeat' apply And.intro) <;> first | trivial | exact Nat.le_of_ble_eq_true rfl | rfl), rfl, (by (repeat' apply And.intro) <;> first | trivial | exact Nat.le_of_ble_eq_true rfl | rfl), by rw [he]; exact CoL.refl _⟩
      · skip
        have h2 := r2
        have h2 := of_decide_eq_true (not_f h2)
        try simp only [Int.toNat_natCast] at h2
        have hs0 : (startE n (goalS n x)).2.2 = 0 := by assumption
        refine hw_skip ?_; show HW _ _ _ _ _; refine hw_seq ?_; refine hw_region (E := TrydE) Trydok ?_; (iterate 3 refine rq rfl rfl rfl rfl rfl ?_)
        refine rc rfl rfl rfl rfl rfl rfl good55 (cRRun (startE n (goalS n x)).1 (startE n (goalS n x)).2.1 p m) (CoL.refl _) rfl rfl ?_; (iterate 3 refine rq rfl rfl rfl rfl rfl ?_); refine rm 3 rfl rfl rfl rfl rfl rfl ?_
        refine rs rfl rfl rfl rfl rfl ?_; refine rq rfl rfl rfl rfl rfl ?_; refine rg_nil ?_; show HW _ _ _ _ _; refine hw_seq ?_; refine hw_draw (E := TrydE) Trydok Trydmixed [0, 1, 2, 3, 4, 5, 6, 7, 8, 9, 10] ?_
        (iterate 3 refine rq rfl rfl rfl rfl rfl ?_); refine rsplit rfl rfl (fun r3 => ?_) (fun r3 => ?_)
        · skip
          have h3 := r3
          have h3 := of_decide_eq_true h3
          try simp only [Int.toNat_natCast] at h3
          have hc0 : (chaseE FU (startE n (goalS n x)).1 (startE n (goalS n x)).2.1 p m).2.2 = 0 := by assumption
          (iterate 2 refine rq rfl rfl rfl rfl (gtt r3) ?_); refine rc rfl rfl rfl rfl rfl rfl good56 (cFirst n hz1) (CoL.refl _) rfl (gtt r3) ?_
          refine rc rfl rfl rfl rfl rfl rfl good18 (cRCont (chaseE FU (startE n (goalS n x)).1 (startE n (goalS n x)).2.1 p m).2.1.1 (chaseE FU (startE n (goalS n x)).1 (startE n (goalS n x)).2.1 p m).2.1.2 (firstZ n)) (CoL.refl _) rfl (gtt r3) ?_
          (iterate 4 refine rq rfl rfl rfl rfl rfl ?_); refine rg_nil ?_; refine ⟨by kernel_rfl, ?_⟩; show HW _ _ _ _ _; refine hw_ret ?_; refine ⟨.inr rfl, ?_⟩
          exact ⟨_, _, _, _, rfl, (by (repeat' apply And.intro) <;> first | trivial | exact Nat.le_of_ble_eq_true rfl | rfl), rfl, (by (repeat' apply And.intro) <;> first | trivial | exact Nat.le_of_ble_eq_true rfl | rfl), by first | (rw [show implE n p m x = ((chaseE FU (startE n (goalS n x)).1 (startE n (goalS n x)).2.1 p m).2.1.2.any (fun r => decide (r = firstZ n)), 0) from (if_pos hbe).trans ((if_pos hu).trans ((if_pos hs0).trans (if_pos hc0)))]; exact ⟨ccb (by simp_all), cci hc0, trivial⟩) | (rw [show implE n p m x = (false, (chaseE FU (startE n (goalS n x)).1 (startE n (goalS n x)).2.1 p m).2.2) from (if_pos hbe).trans ((if_pos hu).trans ((if_pos hs0).trans (if_neg hc0)))]; exact ⟨ccb (by simp_all), CoC.refl _, trivial⟩)⟩
        · skip
          have h3 := r3
          have h3 := of_decide_eq_false h3
          try simp only [Int.toNat_natCast] at h3
          have hc0 : ¬ (chaseE FU (startE n (goalS n x)).1 (startE n (goalS n x)).2.1 p m).2.2 = 0 := by assumption
          (iterate 4 refine rk rfl rfl rfl (gft r3) ?_); refine rq rfl rfl rfl rfl rfl ?_ (hp := r3); (iterate 3 refine rq rfl rfl rfl rfl rfl ?_); refine rg_nil ?_; refine ⟨by kernel_rfl, ?_⟩; show HW _ _ _ _ _; refine hw_ret ?_
          refine ⟨.inr rfl, ?_⟩
          exact ⟨_, _, _, _, rfl, (by (repeat' apply And.intro) <;> first | trivial | exact Nat.le_of_ble_eq_true rfl | rfl), rfl, (by (repeat' apply And.intro) <;> first | trivial | exact Nat.le_of_ble_eq_true rfl | rfl), by first | (rw [show implE n p m x = ((chaseE FU (startE n (goalS n x)).1 (startE n (goalS n x)).2.1 p m).2.1.2.any (fun r => decide (r = firstZ n)), 0) from (if_pos hbe).trans ((if_pos hu).trans ((if_pos hs0).trans (if_pos hc0)))]; exact ⟨ccb (by simp_all), cci hc0, trivial⟩) | (rw [show implE n p m x = (false, (chaseE FU (startE n (goalS n x)).1 (startE n (goalS n x)).2.1 p m).2.2) from (if_pos hbe).trans ((if_pos hu).trans ((if_pos hs0).trans (if_neg hc0)))]; exact ⟨ccb (by simp_all), CoC.refl _, trivial⟩)⟩
end Go.Hx
end
section
namespace Go.Hx
theorem mapT {α β : Type} [Inhabited α] {f : α → β} {l : List α} {i : Nat} (h : i < l.length) : (l.take (i + 1)).map f = (l.take i).map f ++ [f (l.getD i default)] := by
  rw [take_snoc h, List.map_append]
  rfl
structure Rcp where
  n : BitVec 8
  f : List Dp
  m : List Dp
  p : List (BitVec 8)
deriving Inhabited
def Rcp.num (d : Rcp) (k : Nat) : Int := 1 + ((d.n.toNat % k : Nat) : Int)
abbrev u8C : BitVec 8 → Nat → PV := fun b _ => .raw (.int .u8 (b.toNat : Int))
abbrev Rcp.pc (d : Rcp) : PC := .agg [.raw (.int .u8 (d.n.toNat : Int)), dpl d.f, dpl d.m, psl 1 u8C d.p]
def u8S (n : Int) (b : BitVec 8) : AS := b.setWidth 32 &&& fullI n
theorem of_ok {a b c : Nat} : (bif bif decide ((a : Int) ≤ 4) then decide ((b : Int) ≤ 4) else false then decide ((c : Int) ≤ 3) else false) = decide (a ≤ 4 ∧ b ≤ 4 ∧ c ≤ 3) := by
  rw [Bool.eq_iff_iff, decide_eq_true_iff]
  by_cases h1 : (a : Int) ≤ 4
  · by_cases h2 : (b : Int) ≤ 4
    · rw [decide_eq_true h1, decide_eq_true h2, cond_true, cond_true, decide_eq_true_iff]; omega
    · rw [decide_eq_true h1, decide_eq_false h2, cond_true, cond_false]; exact ⟨(fun h => by cases h), (fun h => by omega)⟩
  · rw [decide_eq_false h1, cond_false, cond_false]; exact ⟨(fun h => by cases h), (fun h => by omega)⟩
end Go.Hx
end
section
namespace Go.Hx
open Go.Proofs
set_option maxRecDepth 100000
theorem good23 : goodFn Tryd.prog 23 := ⟨Tryd.f23, Tryd.func23, by kernel_rfl, by kernel_rfl⟩
theorem cOf4 (d : Rcp) (hf : d.f.length ≤ 16777216) (hm : d.m.length ≤ 16777216) (hp : d.p.length ≤ 16777216) : HPure Tryd.prog 23 [d.pc, pI 4] (prOf [pI (d.num 4), pP (fdl (d.f.map (Dp.fd (d.num 4)))), pP (fdl (d.m.map (Dp.fd (d.num 4)))), pP (asl (d.p.map (u8S (d.num 4)))), pB (decide (d.f.length ≤ 4 ∧ d.m.length ≤ 4 ∧ d.p.length ≤ 3))]) := by
  refine hpure_of (nt := 118) Trydok Tryd.func23 rfl rfl (Nat.le_of_ble_eq_true rfl) ?_; refine hw_seq ?_; refine hw_region (E := TrydE) Trydok ?_; refine rm 0 rfl rfl rfl rfl rfl rfl ?_; (iterate 5 refine rq rfl rfl rfl rfl rfl ?_)
  refine rg_nil ?_; show HW _ _ _ _ _; refine hw_seq ?_; refine hw_region (E := TrydE) Trydok ?_; (iterate 7 refine rq rfl rfl rfl rfl rfl ?_); refine rg_nil ?_; show HW _ _ _ _ _; refine hw_seq ?_
  refine hw_region (E := TrydE) Trydok ?_; refine rq rfl rfl rfl rfl rfl ?_; refine rc rfl rfl rfl rfl rfl rfl good30 (cRFull (d.num 4)) (CoL.refl _) rfl rfl ?_; refine rq rfl rfl rfl rfl rfl ?_; refine rg_nil ?_; show HW _ _ _ _ _
  refine hw_seq ?_; refine hw_region (E := TrydE) Trydok ?_; refine rq rfl rfl rfl rfl rfl ?_; refine rg_nil ?_; show HW _ _ _ _ _; (iterate 2 refine hw_seq ?_); refine hw_region (E := TrydE) Trydok ?_
  refine rq rfl rfl rfl rfl rfl ?_; refine rg_nil ?_; show HW _ _ _ _ _; refine hw_block ?_
  refine hw_adopt 11 900 true 2 69 (lf Fd.c []) (by decide) rfl (CoP.sl rfl (.inr rfl) (fun h => h) (fun i j hi _ => absurd hi (Nat.not_lt_zero i))) (.inr rfl) rfl ?_
  refine hw_loopK (ι := Nat) ⟨[(2, some _), (9, some _), (10, some _)], [(0, some _)]⟩ ⟨⟨⟨_, rfl, CoR.refl _⟩, ⟨_, rfl, CoR.refl _⟩, ⟨_, rfl, CoR.refl _⟩, trivial⟩, ⟨⟨_, rfl, CoO.refl _⟩, trivial⟩⟩ (fun i => ⟨[(11, some (.v (.one (.ref 900 ((d.f.take i).map (Dp.fd (d.num 4))).length)))), (12, some (vI i))], [(900, some (.arr true 2 69 ((d.f.take i).map (Dp.fd (d.num 4))).length (lf Fd.c ((d.f.take i).map (Dp.fd (d.num 4))))))]⟩) (fun i => i ≤ d.f.length) (fun i => d.f.length - i) (0) (Nat.zero_le _) ⟨⟨⟨_, rfl, (by first | exact CoR.refl _ | exact coi (by omega) | exact cob (by simp_all))⟩, ⟨_, rfl, (by first | exact CoR.refl _ | exact coi (by omega) | exact cob (by simp_all))⟩, trivial⟩, ⟨⟨_, rfl, CoO.refl _⟩, trivial⟩⟩ ?_
  rintro i hi
  have hlen : ((d.f.take i).map (Dp.fd (d.num 4))).length ≤ i := by rw [List.length_map, List.length_take]; omega
  (iterate 2 refine hw_seq ?_); refine hw_region (E := TrydE) Trydok ?_; (iterate 5 refine rq rfl rfl rfl rfl rfl ?_); refine rg_nil ?_; show HW _ _ _ _ _; refine hw_cond _ rfl (fun r0 => ?_) (fun r0 => ?_)
  · skip
    have h0 := r0
    have h0 := of_decide_eq_true h0
    try simp only [Int.toNat_natCast] at h0
    refine hw_skip ?_; show HW _ _ _ _ _; refine hw_seq ?_; refine hw_block ?_; refine hw_draw (E := TrydE) Trydok Trydmixed [0, 1, 2, 3, 4, 5, 6, 7, 8, 9, 10, 11, 12, 13, 14, 15, 16, 17, 18, 19, 20, 21, 22] ?_
    (iterate 20 refine rq rfl rfl rfl rfl rfl ?_); refine rm 1 rfl rfl rfl rfl rfl rfl ?_; refine ra 2 true rfl rfl rfl rfl rfl rfl ?_; refine rq rfl rfl rfl rfl rfl ?_; refine rg_nil ?_; refine ⟨by kernel_rfl, ?_⟩
    show HW _ _ _ _ _; refine hw_region (E := TrydE) Trydok ?_; (iterate 3 refine rq rfl rfl rfl rfl rfl ?_); refine rg_nil ?_; refine ⟨i + 1, ?_, ?_, ?_⟩
    · show i + 1 ≤ _; omega
    · first | omega | (dsimp only; omega)
    · exact ⟨⟨⟨_, rfl, (ref_app (mapT (by omega)))⟩, ⟨_, rfl, (by first | exact CoR.refl _ | exact coi (by omega) | exact cob (by simp_all))⟩, ⟨_, rfl, CoR.refl _⟩, ⟨_, rfl, CoR.refl _⟩, ⟨_, rfl, CoR.refl _⟩, trivial⟩, ⟨⟨_, rfl, (arr_app2 (mapT (by omega)) (CoP.of_eq (congrArg (fun z => PV.raw (.int .u32 z)) (u8_and _ _))) (CoP.of_eq (congrArg (fun z => PV.raw (.int .u32 z)) (u8_and _ _))))⟩, ⟨_, rfl, CoO.refl _⟩, trivial⟩⟩
  · skip
    have h0 := r0
    have h0 := of_decide_eq_false h0
    try simp only [Int.toNat_natCast] at h0
    obtain rfl : i = d.f.length := by omega
    refine hw_exit ?_; show HW _ _ _ _ _; refine hw_seq ?_; refine hw_freeze 11 rfl rfl rfl ?_; refine hw_region (E := TrydE) Trydok ?_; refine rq rfl rfl rfl rfl rfl ?_; refine rg_nil ?_; show HW _ _ _ _ _
    (iterate 2 refine hw_seq ?_); refine hw_region (E := TrydE) Trydok ?_; refine rq rfl rfl rfl rfl rfl ?_; refine rg_nil ?_; show HW _ _ _ _ _; refine hw_block ?_
    refine hw_adopt 13 901 true 2 59 (lf Fd.c []) (by decide) rfl (CoP.sl rfl (.inr rfl) (fun h => h) (fun i j hi _ => absurd hi (Nat.not_lt_zero i))) (.inr rfl) rfl ?_
    refine hw_loopK (ι := Nat) ⟨[(2, some _), (9, some _), (10, some _), (11, some _)], [(0, some _)]⟩ ⟨⟨⟨_, rfl, CoR.refl _⟩, ⟨_, rfl, CoR.refl _⟩, ⟨_, rfl, CoR.refl _⟩, ⟨_, rfl, CoR.refl _⟩, trivial⟩, ⟨⟨_, rfl, CoO.refl _⟩, trivial⟩⟩ (fun i => ⟨[(13, some (.v (.one (.ref 901 ((d.m.take i).map (Dp.fd (d.num 4))).length)))), (14, some (vI i))], [(901, some (.arr true 2 59 ((d.m.take i).map (Dp.fd (d.num 4))).length (lf Fd.c ((d.m.take i).map (Dp.fd (d.num 4))))))]⟩) (fun i => i ≤ d.m.length) (fun i => d.m.length - i) (0) (Nat.zero_le _) ⟨⟨⟨_, rfl, (by first | exact CoR.refl _ | exact coi (by omega) | exact cob (by simp_all))⟩, ⟨_, rfl, (by first | exact CoR.refl _ | exact coi (by omega) | exact cob (by simp_all))⟩, trivial⟩, ⟨⟨_, rfl, CoO.refl _⟩, trivial⟩⟩ ?_
    rintro i hi
    have hlen : ((d.m.take i).map (Dp.fd (d.num 4))).length ≤ i := by rw [List.length_map, List.length_take]; omega
    (iterate 2 refine hw_seq ?_); refine hw_region (E := TrydE) Trydok ?_; (iterate 5 refine rq rfl rfl rfl rfl rfl ?_); refine rg_nil ?_; show HW _ _ _ _ _; refine hw_cond _ rfl (fun r1 => ?_) (fun r1 => ?_)
    · skip
      have h1 := r1
      have h1 := of_decide_eq_true h1
      try simp only [Int.toNat_natCast] at h1
      refine hw_skip ?_; show HW _ _ _ _ _; refine hw_seq ?_; refine hw_block ?_; refine hw_draw (E := TrydE) Trydok Trydmixed [0, 1, 2, 3, 4, 5, 6, 7, 8, 9, 10, 11, 12, 13, 14, 15, 16, 17, 18, 19, 20, 21, 22] ?_
      (iterate 20 refine rq rfl rfl rfl rfl rfl ?_); refine rm 3 rfl rfl rfl rfl rfl rfl ?_; refine ra 4 true rfl rfl rfl rfl rfl rfl ?_; refine rq rfl rfl rfl rfl rfl ?_; refine rg_nil ?_; refine ⟨by kernel_rfl, ?_⟩
      show HW _ _ _ _ _; refine hw_region (E := TrydE) Trydok ?_; (iterate 3 refine rq rfl rfl rfl rfl rfl ?_); refine rg_nil ?_; refine ⟨i + 1, ?_, ?_, ?_⟩
      · show i + 1 ≤ _; omega
      · first | omega | (dsimp only; omega)
      · exact ⟨⟨⟨_, rfl, (ref_app (mapT (by omega)))⟩, ⟨_, rfl, (by first | exact CoR.refl _ | exact coi (by omega) | exact cob (by simp_all))⟩, ⟨_, rfl, CoR.refl _⟩, ⟨_, rfl, CoR.refl _⟩, ⟨_, rfl, CoR.refl _⟩, ⟨_, rfl, CoR.refl _⟩, trivial⟩, ⟨⟨_, rfl, (arr_app2 (mapT (by omega)) (CoP.of_eq (congrArg (fun z => PV.raw (.int .u32 z)) (u8_and _ _))) (CoP.of_eq (congrArg (fun z => PV.raw (.int .u32 z)) (u8_and _ _))))⟩, ⟨_, rfl, CoO.refl _⟩, trivial⟩⟩
    · skip
      have h1 := r1
      have h1 := of_decide_eq_false h1
      try simp only [Int.toNat_natCast] at h1
      obtain rfl : i = d.m.length := by omega
      refine hw_exit ?_; show HW _ _ _ _ _; refine hw_seq ?_; refine hw_freeze 13 rfl rfl rfl ?_; refine hw_region (E := TrydE) Trydok ?_; refine rq rfl rfl rfl rfl rfl ?_; refine rg_nil ?_; show HW _ _ _ _ _
      (iterate 2 refine hw_seq ?_); refine hw_region (E := TrydE) Trydok ?_; refine rq rfl rfl rfl rfl rfl ?_; refine rg_nil ?_; show HW _ _ _ _ _; refine hw_block ?_
      refine hw_adopt 15 902 true 1 34 (lf sC []) (by decide) rfl (CoP.sl rfl (.inr rfl) (fun h => h) (fun i j hi _ => absurd hi (Nat.not_lt_zero i))) (.inr rfl) rfl ?_
      refine hw_loopK (ι := Nat) ⟨[(2, some _), (9, some _), (10, some _), (11, some _), (13, some _)], [(0, some _)]⟩ ⟨⟨⟨_, rfl, CoR.refl _⟩, ⟨_, rfl, CoR.refl _⟩, ⟨_, rfl, CoR.refl _⟩, ⟨_, rfl, CoR.refl _⟩, ⟨_, rfl, CoR.refl _⟩, trivial⟩, ⟨⟨_, rfl, CoO.refl _⟩, trivial⟩⟩ (fun i => ⟨[(15, some (.v (.one (.ref 902 ((d.p.take i).map (u8S (d.num 4))).length)))), (16, some (vI i))], [(902, some (.arr true 1 34 ((d.p.take i).map (u8S (d.num 4))).length (lf sC ((d.p.take i).map (u8S (d.num 4))))))]⟩) (fun i => i ≤ d.p.length) (fun i => d.p.length - i) (0) (Nat.zero_le _) ⟨⟨⟨_, rfl, (by first | exact CoR.refl _ | exact coi (by omega) | exact cob (by simp_all))⟩, ⟨_, rfl, (by first | exact CoR.refl _ | exact coi (by omega) | exact cob (by simp_all))⟩, trivial⟩, ⟨⟨_, rfl, CoO.refl _⟩, trivial⟩⟩ ?_
      rintro i hi
      have hlen : ((d.p.take i).map (u8S (d.num 4))).length ≤ i := by rw [List.length_map, List.length_take]; omega
      (iterate 2 refine hw_seq ?_); refine hw_region (E := TrydE) Trydok ?_; (iterate 5 refine rq rfl rfl rfl rfl rfl ?_); refine rg_nil ?_; show HW _ _ _ _ _; refine hw_cond _ rfl (fun r2 => ?_) (fun r2 => ?_)
      · skip
        have h2 := r2
        have h2 := of_decide_eq_true h2
        try simp only [Int.toNat_natCast] at h2
        refine hw_skip ?_; show HW _ _ _ _ _; refine hw_seq ?_; refine hw_block ?_; refine hw_region (E := TrydE) Trydok ?_; (iterate 9 refine rq rfl rfl rfl rfl rfl ?_); refine rm 5 rfl rfl rfl rfl rfl rfl ?_
        refine ra 6 true rfl rfl rfl rfl rfl rfl ?_; refine rq rfl rfl rfl rfl rfl ?_; refine rg_nil ?_; show HW _ _ _ _ _; refine hw_region (E := TrydE) Trydok ?_; (iterate 3 refine rq rfl rfl rfl rfl rfl ?_); refine rg_nil ?_
        refine ⟨i + 1, ?_, ?_, ?_⟩
        · show i + 1 ≤ _; omega
        · first | omega | (dsimp only; omega)
        · exact ⟨⟨⟨_, rfl, (ref_app (mapT (by omega)))⟩, ⟨_, rfl, (by first | exact CoR.refl _ | exact coi (by omega) | exact cob (by simp_all))⟩, ⟨_, rfl, CoR.refl _⟩, ⟨_, rfl, CoR.refl _⟩, ⟨_, rfl, CoR.refl _⟩, ⟨_, rfl, CoR.refl _⟩, ⟨_, rfl, CoR.refl _⟩, trivial⟩, ⟨⟨_, rfl, (arr_app1 (mapT (by omega)) (CoP.of_eq (congrArg (fun z => PV.raw (.int .u32 z)) (u8_and _ _))))⟩, ⟨_, rfl, CoO.refl _⟩, trivial⟩⟩
      · skip
        have h2 := r2
        have h2 := of_decide_eq_false h2
        try simp only [Int.toNat_natCast] at h2
        obtain rfl : i = d.p.length := by omega
        refine hw_exit ?_; show HW _ _ _ _ _; refine hw_seq ?_; refine hw_freeze 15 rfl rfl rfl ?_; refine hw_region (E := TrydE) Trydok ?_; (iterate 8 refine rq rfl rfl rfl rfl rfl ?_)
        refine rsplit rfl rfl (fun r3 => ?_) (fun r3 => ?_)
        · skip
          have h3 := r3
          have h3 := of_decide_eq_true h3
          try simp only [Int.toNat_natCast] at h3
          (iterate 3 refine rq rfl rfl rfl rfl (gtt r3) ?_); (iterate 2 refine rq rfl rfl rfl rfl rfl ?_); refine rsplit rfl rfl (fun r4 => ?_) (fun r4 => ?_)
          · skip
            have h4 := r4
            have h4 := bif_t r3 h4
            have h4 := of_decide_eq_true h4
            try simp only [Int.toNat_natCast] at h4
            (iterate 3 refine rq rfl rfl rfl rfl (gtt r4) ?_); (iterate 6 refine rq rfl rfl rfl rfl rfl ?_); refine rg_nil ?_; show HW _ _ _ _ _; refine hw_ret ?_; refine ⟨.inr rfl, ?_⟩
            exact ⟨_, _, _, _, rfl, (by (repeat' apply And.intro) <;> first | trivial | exact Nat.le_of_ble_eq_true rfl | rfl), rfl, (by (repeat' apply And.intro) <;> first | trivial | exact Nat.le_of_ble_eq_true rfl | rfl), ⟨CoC.refl _, (by rw [List.take_length]; exact CoC.refl _), (by rw [List.take_length]; exact CoC.refl _), (by rw [List.take_length]; exact CoC.refl _), ccb (by first | (simp only [List.length_map, List.take_length]; exact of_ok) | exact (decide_eq_false (by omega)).symm), trivial⟩⟩
          · skip
            have h4 := r4
            have h4 := bif_t r3 h4
            have h4 := of_decide_eq_false h4
            try simp only [Int.toNat_natCast] at h4
            (iterate 3 refine rk rfl rfl rfl (gft r4) ?_); refine rq rfl rfl rfl rfl rfl ?_ (hp := r4); (iterate 5 refine rq rfl rfl rfl rfl rfl ?_); refine rg_nil ?_; show HW _ _ _ _ _; refine hw_ret ?_; refine ⟨.inr rfl, ?_⟩
            exact ⟨_, _, _, _, rfl, (by (repeat' apply And.intro) <;> first | trivial | exact Nat.le_of_ble_eq_true rfl | rfl), rfl, (by (repeat' apply And.intro) <;> first | trivial | exact Nat.le_of_ble_eq_true rfl | rfl), ⟨CoC.refl _, (by rw [List.take_length]; exact CoC.refl _), (by rw [List.take_length]; exact CoC.refl _), (by rw [List.take_length]; exact CoC.refl _), ccb (by first | (simp only [List.length_map, List.take_length]; exact of_ok) | exact (decide_eq_false (by omega)).symm), trivial⟩⟩
        · skip
          have h3 := r3
          have h3 := of_decide_eq_false h3
          try simp only [Int.toNat_natCast] at h3
          (iterate 3 refine rk rfl rfl rfl (gft r3) ?_); refine rq rfl rfl rfl rfl rfl ?_ (hp := r3); refine rq rfl rfl rfl rfl rfl ?_; (iterate 3 refine rk rfl rfl rfl rfl ?_); (iterate 6 refine rq rfl rfl rfl rfl rfl ?_)
          refine rg_nil ?_; show HW _ _ _ _ _; refine hw_ret ?_; refine ⟨.inr rfl, ?_⟩
          exact ⟨_, _, _, _, rfl, (by (repeat' apply And.intro) <;> first | trivial | exact Nat.le_of_ble_eq_true rfl | rfl), rfl, (by (repeat' apply And.intro) <;> first | trivial | exact Nat.le_of_ble_eq_true rfl | rfl), ⟨CoC.refl _, (by rw [List.take_length]; exact CoC.refl _), (by rw [List.take_length]; exact CoC.refl _), (by rw [List.take_length]; exact CoC.refl _), ccb (by first | (simp only [List.length_map, List.take_length]; exact of_ok) | exact (decide_eq_false (by omega)).symm), trivial⟩⟩
theorem cOf5 (d : Rcp) (hf : d.f.length ≤ 16777216) (hm : d.m.length ≤ 16777216) (hp : d.p.length ≤ 16777216) : HPure Tryd.prog 23 [d.pc, pI 5] (prOf [pI (d.num 5), pP (fdl (d.f.map (Dp.fd (d.num 5)))), pP (fdl (d.m.map (Dp.fd (d.num 5)))), pP (asl (d.p.map (u8S (d.num 5)))), pB (decide (d.f.length ≤ 4 ∧ d.m.length ≤ 4 ∧ d.p.length ≤ 3))]) := by
  refine hpure_of (nt := 118) Trydok Tryd.func23 rfl rfl (Nat.le_of_ble_eq_true rfl) ?_; refine hw_seq ?_; refine hw_region (E := TrydE) Trydok ?_; refine rm 0 rfl rfl rfl rfl rfl rfl ?_; (iterate 5 refine rq rfl rfl rfl rfl rfl ?_)
  refine rg_nil ?_; show HW _ _ _ _ _; refine hw_seq ?_; refine hw_region (E := TrydE) Trydok ?_; (iterate 7 refine rq rfl rfl rfl rfl rfl ?_); refine rg_nil ?_; show HW _ _ _ _ _; refine hw_seq ?_
  refine hw_region (E := TrydE) Trydok ?_; refine rq rfl rfl rfl rfl rfl ?_; refine rc rfl rfl rfl rfl rfl rfl good30 (cRFull (d.num 5)) (CoL.refl _) rfl rfl ?_; refine rq rfl rfl rfl rfl rfl ?_; refine rg_nil ?_; show HW _ _ _ _ _
  refine hw_seq ?_; refine hw_region (E := TrydE) Trydok ?_; refine rq rfl rfl rfl rfl rfl ?_; refine rg_nil ?_; show HW _ _ _ _ _; (iterate 2 refine hw_seq ?_); refine hw_region (E := TrydE) Trydok ?_
  refine rq rfl rfl rfl rfl rfl ?_; refine rg_nil ?_; show HW _ _ _ _ _; refine hw_block ?_
  refine hw_adopt 11 900 true 2 69 (lf Fd.c []) (by decide) rfl (CoP.sl rfl (.inr rfl) (fun h => h) (fun i j hi _ => absurd hi (Nat.not_lt_zero i))) (.inr rfl) rfl ?_
  refine hw_loopK (ι := Nat) ⟨[(2, some _), (9, some _), (10, some _)], [(0, some _)]⟩ ⟨⟨⟨_, rfl, CoR.refl _⟩, ⟨_, rfl, CoR.refl _⟩, ⟨_, rfl, CoR.refl _⟩, trivial⟩, ⟨⟨_, rfl, CoO.refl _⟩, trivial⟩⟩ (fun i => ⟨[(11, some (.v (.one (.ref 900 ((d.f.take i).map (Dp.fd (d.num 5))).length)))), (12, some (vI i))], [(900, some (.arr true 2 69 ((d.f.take i).map (Dp.fd (d.num 5))).length (lf Fd.c ((d.f.take i).map (Dp.fd (d.num 5))))))]⟩) (fun i => i ≤ d.f.length) (fun i => d.f.length - i) (0) (Nat.zero_le _) ⟨⟨⟨_, rfl, (by first | exact CoR.refl _ | exact coi (by omega) | exact cob (by simp_all))⟩, ⟨_, rfl, (by first | exact CoR.refl _ | exact coi (by omega) | exact cob (by simp_all))⟩, trivial⟩, ⟨⟨_, rfl, CoO.refl _⟩, trivial⟩⟩ ?_
  rintro i hi
  have hlen : ((d.f.take i).map (Dp.fd (d.num 5))).length ≤ i := by rw [List.length_map, List.length_take]; omega
  (iterate 2 refine hw_seq ?_); refine hw_region (E := TrydE) Trydok ?_; (iterate 5 refine rq rfl rfl rfl rfl rfl ?_); refine rg_nil ?_; show HW _ _ _ _ _; refine hw_cond _ rfl (fun r0 => ?_) (fun r0 => ?_)
  · skip
    have h0 := r0
    have h0 := of_decide_eq_true h0
    try simp only [Int.toNat_natCast] at h0
    refine hw_skip ?_; show HW _ _ _ _ _; refine hw_seq ?_; refine hw_block ?_; refine hw_draw (E := TrydE) Trydok Trydmixed [0, 1, 2, 3, 4, 5, 6, 7, 8, 9, 10, 11, 12, 13, 14, 15, 16, 17, 18, 19, 20, 21, 22] ?_
    (iterate 20 refine rq rfl rfl rfl rfl rfl ?_); refine rm 1 rfl rfl rfl rfl rfl rfl ?_; refine ra 2 true rfl rfl rfl rfl rfl rfl ?_; refine rq rfl rfl rfl rfl rfl ?_; refine rg_nil ?_; refine ⟨by kernel_rfl, ?_⟩
    show HW _ _ _ _ _; refine hw_region (E := TrydE) Trydok ?_; (iterate 3 refine rq rfl rfl rfl rfl rfl ?_); refine rg_nil ?_; refine ⟨i + 1, ?_, ?_, ?_⟩
    · show i + 1 ≤ _; omega
    · first | omega | (dsimp only; omega)
    · exact ⟨⟨⟨_, rfl, (ref_app (mapT (by omega)))⟩, ⟨_, rfl, (by first | exact CoR.refl _ | exact coi (by omega) | exact cob (by simp_all))⟩, ⟨_, rfl, CoR.refl _⟩, ⟨_, rfl, CoR.refl _⟩, ⟨_, rfl, CoR.refl _⟩, trivial⟩, ⟨⟨_, rfl, (arr_app2 (mapT (by omega)) (CoP.of_eq (congrArg (fun z => PV.raw (.int .u32 z)) (u8_and _ _))) (CoP.of_eq (congrArg (fun z => PV.raw (.int .u32 z)) (u8_and _ _))))⟩, ⟨_, rfl, CoO.refl _⟩, trivial⟩⟩
  · skip
    have h0 := r0
    have h0 := of_decide_eq_false h0
    try simp only [Int.toNat_natCast] at h0
    obtain rfl : i = d.f.length := by omega
    refine hw_exit ?_; show HW _ _ _ _ _; refine hw_seq ?_; refine hw_freeze 11 rfl rfl rfl ?_; refine hw_region (E := TrydE) Trydok ?_; refine rq rfl rfl rfl rfl rfl ?_; refine rg_nil ?_; show HW _ _ _ _ _
    (iterate 2 refine hw_seq ?_); refine hw_region (E := TrydE) Trydok ?_; refine rq rfl rfl rfl rfl rfl ?_; refine rg_nil ?_; show HW _ _ _ _ _; refine hw_block ?_
    refine hw_adopt 13 901 true 2 59 (lf Fd.c []) (by decide) rfl (CoP.sl rfl (.inr rfl) (fun h => h) (fun i j hi _ => absurd hi (Nat.not_lt_zero i))) (.inr rfl) rfl ?_
    refine hw_loopK (ι := Nat) ⟨[(2, some _), (9, some _), (10, some _), (11, some _)], [(0, some _)]⟩ ⟨⟨⟨_, rfl, CoR.refl _⟩, ⟨_, rfl, CoR.refl _⟩, ⟨_, rfl, CoR.refl _⟩, ⟨_, rfl, CoR.refl _⟩, trivial⟩, ⟨⟨_, rfl, CoO.refl _⟩, trivial⟩⟩ (fun i => ⟨[(13, some (.v (.one (.ref 901 ((d.m.take i).map (Dp.fd (d.num 5))).length)))), (14, some (vI i))], [(901, some (.arr true 2 59 ((d.m.take i).map (Dp.fd (d.num 5))).length (lf Fd.c ((d.m.take i).map (Dp.fd (d.num 5))))))]⟩) (fun i => i ≤ d.m.length) (fun i => d.m.length - i) (0) (Nat.zero_le _) ⟨⟨⟨_, rfl, (by first | exact CoR.refl _ | exact coi (by omega) | exact cob (by simp_all))⟩, ⟨_, rfl, (by first | exact CoR.refl _ | exact coi (by omega) | exact cob (by simp_all))⟩, trivial⟩, ⟨⟨_, rfl, CoO.refl _⟩, trivial⟩⟩ ?_
    rintro i hi
    have hlen : ((d.m.take i).map (Dp.fd (d.num 5))).length ≤ i := by rw [List.length_map, List.length_take]; omega
    (iterate 2 refine hw_seq ?_); refine hw_region (E := TrydE) Trydok ?_; (iterate 5 refine rq rfl rfl rfl rfl rfl ?_); refine rg_nil ?_; show HW _ _ _ _ _; refine hw_cond _ rfl (fun r1 => ?_) (fun r1 => ?_)
    · skip
      have h1 := r1
      have h1 := of_decide_eq_true h1
      try simp only [Int.toNat_natCast] at h1
      refine hw_skip ?_; show HW _ _ _ _ _; refine hw_seq ?_; refine hw_block ?_; refine hw_draw (E := TrydE) Trydok Trydmixed [0, 1, 2, 3, 4, 5, 6, 7, 8, 9, 10, 11, 12, 13, 14, 15, 16, 17, 18, 19, 20, 21, 22] ?_
      (iterate 20 refine rq rfl rfl rfl rfl rfl ?_); refine rm 3 rfl rfl rfl rfl rfl rfl ?_; refine ra 4 true rfl rfl rfl rfl rfl rfl ?_; refine rq rfl rfl rfl rfl rfl ?_; refine rg_nil ?_; refine ⟨by kernel_rfl, ?_⟩
      show HW _ _ _ _ _; refine hw_region (E := TrydE) Trydok ?_; (iterate 3 refine rq rfl rfl rfl rfl rfl ?_); refine rg_nil ?_; refine ⟨i + 1, ?_, ?_, ?_⟩
      · show i + 1 ≤ _; omega
      · first | omega | (dsimp only; omega)
      · exact ⟨⟨⟨_, rfl, (ref_app (mapT (by omega)))⟩, ⟨_, rfl, (by first | exact CoR.refl _ | exact coi (by omega) | exact cob (by simp_all))⟩, ⟨_, rfl, CoR.refl _⟩, ⟨_, rfl, CoR.refl _⟩, ⟨_, rfl, CoR.refl _⟩, ⟨_, rfl, CoR.refl _⟩, trivial⟩, ⟨⟨_, rfl, (arr_app2 (mapT (by omega)) (CoP.of_eq (congrArg (fun z => PV.raw (.int .u32 z)) (u8_and _ _))) (CoP.of_eq (congrArg (fun z => PV.raw (.int .u32 z)) (u8_and _ _))))⟩, ⟨_, rfl, CoO.refl _⟩, trivial⟩⟩
    · skip
      have h1 := r1
      have h1 := of_decide_eq_false h1
      try simp only [Int.toNat_natCast] at h1
      obtain rfl : i = d.m.length := by omega
      refine hw_exit ?_; show HW _ _ _ _ _; refine hw_seq ?_; refine hw_freeze 13 rfl rfl rfl ?_; refine hw_region (E := TrydE) Trydok ?_; refine rq rfl rfl rfl rfl rfl ?_; refine rg_nil ?_; show HW _ _ _ _ _
      (iterate 2 refine hw_seq ?_); refine hw_region (E := TrydE) Trydok ?_; refine rq rfl rfl rfl rfl rfl ?_; refine rg_nil ?_; show HW _ _ _ _ _; refine hw_block ?_
      refine hw_adopt 15 902 true 1 34 (lf sC []) (by decide) rfl (CoP.sl rfl (.inr rfl) (fun h => h) (fun i j hi _ => absurd hi (Nat.not_lt_zero i))) (.inr rfl) rfl ?_
      refine hw_loopK (ι := Nat) ⟨[(2, some _), (9, some _), (10, some _), (11, some _), (13, some _)], [(0, some _)]⟩ ⟨⟨⟨_, rfl, CoR.refl _⟩, ⟨_, rfl, CoR.refl _⟩, ⟨_, rfl, CoR.refl _⟩, ⟨_, rfl, CoR.refl _⟩, ⟨_, rfl, CoR.refl _⟩, trivial⟩, ⟨⟨_, rfl, CoO.refl _⟩, trivial⟩⟩ (fun i => ⟨[(15, some (.v (.one (.ref 902 ((d.p.take i).map (u8S (d.num 5))).length)))), (16, some (vI i))], [(902, some (.arr true 1 34 ((d.p.take i).map (u8S (d.num 5))).length (lf sC ((d.p.take i).map (u8S (d.num 5))))))]⟩) (fun i => i ≤ d.p.length) (fun i => d.p.length - i) (0) (Nat.zero_le _) ⟨⟨⟨_, rfl, (by first | exact CoR.refl _ | exact coi (by omega) | exact cob (by simp_all))⟩, ⟨_, rfl, (by first | exact CoR.refl _ | exact coi (by omega) | exact cob (by simp_all))⟩, trivial⟩, ⟨⟨_, rfl, CoO.refl _⟩, trivial⟩⟩ ?_
      rintro i hi
      have hlen : ((d.p.take i).map (u8S (d.num 5))).length ≤ i := by rw [List.length_map, List.length_take]; omega
      (iterate 2 refine hw_seq ?_); refine hw_region (E := TrydE) Trydok ?_; (iterate 5 refine rq rfl rfl rfl rfl rfl ?_); refine rg_nil ?_; show HW _ _ _ _ _; refine hw_cond _ rfl (fun r2 => ?_) (fun r2 => ?_)
      · skip
        have h2 := r2
        have h2 := of_decide_eq_true h2
        try simp only [Int.toNat_natCast] at h2
        refine hw_skip ?_; show HW _ _ _ _ _; refine hw_seq ?_; refine hw_block ?_; refine hw_region (E := TrydE) Trydok ?_; (iterate 9 refine rq rfl rfl rfl rfl rfl ?_); refine rm 5 rfl rfl rfl rfl rfl rfl ?_
        refine ra 6 true rfl rfl rfl rfl rfl rfl ?_; refine rq rfl rfl rfl rfl rfl ?_; refine rg_nil ?_; show HW _ _ _ _ _; refine hw_region (E := TrydE) Trydok ?_; (iterate 3 refine rq rfl rfl rfl rfl rfl ?_); refine rg_nil ?_
        refine ⟨i + 1, ?_, ?_, ?_⟩
        · show i + 1 ≤ _; omega
        · first | omega | (dsimp only; omega)
        · exact ⟨⟨⟨_, rfl, (ref_app (mapT (by omega)))⟩, ⟨_, rfl, (by first | exact CoR.refl _ | exact coi (by omega) | exact cob (by simp_all))⟩, ⟨_, rfl, CoR.refl _⟩, ⟨_, rfl, CoR.refl _⟩, ⟨_, rfl, CoR.refl _⟩, ⟨_, rfl, CoR.refl _⟩, ⟨_, rfl, CoR.refl _⟩, trivial⟩, ⟨⟨_, rfl, (arr_app1 (mapT (by omega)) (CoP.of_eq (congrArg (fun z => PV.raw (.int .u32 z)) (u8_and _ _))))⟩, ⟨_, rfl, CoO.refl _⟩, trivial⟩⟩
      · skip
        have h2 := r2
        have h2 := of_decide_eq_false h2
        try simp only [Int.toNat_natCast] at h2
        obtain rfl : i = d.p.length := by omega
        refine hw_exit ?_; show HW _ _ _ _ _; refine hw_seq ?_; refine hw_freeze 15 rfl rfl rfl ?_; refine hw_region (E := TrydE) Trydok ?_; (iterate 8 refine rq rfl rfl rfl rfl rfl ?_)
        refine rsplit rfl rfl (fun r3 => ?_) (fun r3 => ?_)
        · skip
          have h3 := r3
          have h3 := of_decide_eq_true h3
          try simp only [Int.toNat_natCast] at h3
          (iterate 3 refine rq rfl rfl rfl rfl (gtt r3) ?_); (iterate 2 refine rq rfl rfl rfl rfl rfl ?_); refine rsplit rfl rfl (fun r4 => ?_) (fun r4 => ?_)
          · skip
            have h4 := r4
            have h4 := bif_t r3 h4
            have h4 := of_decide_eq_true h4
            try simp only [Int.toNat_natCast] at h4
            (iterate 3 refine rq rfl rfl rfl rfl (gtt r4) ?_); (iterate 6 refine rq rfl rfl rfl rfl rfl ?_); refine rg_nil ?_; show HW _ _ _ _ _; refine hw_ret ?_; refine ⟨.inr rfl, ?_⟩
            exact ⟨_, _, _, _, rfl, (by (repeat' apply And.intro) <;> first | trivial | exact Nat.le_of_ble_eq_true rfl | rfl), rfl, (by (repeat' apply And.intro) <;> first | trivial | exact Nat.le_of_ble_eq_true rfl | rfl), ⟨CoC.refl _, (by rw [List.take_length]; exact CoC.refl _), (by rw [List.take_length]; exact CoC.refl _), (by rw [List.take_length]; exact CoC.refl _), ccb (by first | (simp only [List.length_map, List.take_length]; exact of_ok) | exact (decide_eq_false (by omega)).symm), trivial⟩⟩
          · skip
            have h4 := r4
            have h4 := bif_t r3 h4
            have h4 := of_decide_eq_false h4
            try simp only [Int.toNat_natCast] at h4
            (iterate 3 refine rk rfl rfl rfl (gft r4) ?_); refine rq rfl rfl rfl rfl rfl ?_ (hp := r4); (iterate 5 refine rq rfl rfl rfl rfl rfl ?_); refine rg_nil ?_; show HW _ _ _ _ _; refine hw_ret ?_; refine ⟨.inr rfl, ?_⟩
            exact ⟨_, _, _, _, rfl, (by (repeat' apply And.intro) <;> first | trivial | exact Nat.le_of_ble_eq_true rfl | rfl), rfl, (by (repeat' apply And.intro) <;> first | trivial | exact Nat.le_of_ble_eq_true rfl | rfl), ⟨CoC.refl _, (by rw [List.take_length]; exact CoC.refl _), (by rw [List.take_length]; exact CoC.refl _), (by rw [List.take_length]; exact CoC.refl _), ccb (by first | (simp only [List.length_map, List.take_length]; exact of_ok) | exact (decide_eq_false (by omega)).symm), trivial⟩⟩
        · skip
          have h3 := r3
          have h3 := of_decide_eq_false h3
          try simp only [Int.toNat_natCast] at h3
          (iterate 3 refine rk rfl rfl rfl (gft r3) ?_); refine rq rfl rfl rfl rfl rfl ?_ (hp := r3); refine rq rfl rfl rfl rfl rfl ?_; (iterate 3 refine rk rfl rfl rfl rfl ?_); (iterate 6 refine rq rfl rfl rfl rfl rfl ?_)
          refine rg_nil ?_; show HW _ _ _ _ _; refine hw_ret ?_; refine ⟨.inr rfl, ?_⟩
          exact ⟨_, _, _, _, rfl, (by (repeat' apply And.intro) <;> first | trivial | exact Nat.le_of_ble_eq_true rfl | rfl), rfl, (by (repeat' apply And.intro) <;> first | trivial | exact Nat.le_of_ble_eq_true rfl | rfl), ⟨CoC.refl _, (by rw [List.take_length]; exact CoC.refl _), (by rw [List.take_length]; exact CoC.refl _), (by rw [List.take_length]; exact CoC.refl _), ccb (by first | (simp only [List.length_map, List.take_length]; exact of_ok) | exact (decide_eq_false (by omega)).symm), trivial⟩⟩
end Go.Hx
end
section
namespace Go.Hx
theorem applyE_e {n : Int} {l : List Rw} {p m : List Fd} {mu : Bool} {i a b : Int} (h : ¬ ckE n l p m = 0) : applyE n l p m mu i a b = (0, [], ckE n l p m) := if_neg h
theorem applyE_b {n : Int} {l : List Rw} {p m : List Fd} {mu : Bool} {i a b : Int} (h : ckE n l p m = 0) (h3 : badS l p m mu i a b) : applyE n l p m mu i a b = (0, [], 1) := (if_pos h).trans (if_pos h3)
theorem applyE_g {n : Int} {l : List Rw} {p m : List Fd} {mu : Bool} {i a b : Int} (h : ckE n l p m = 0) (h3 : ¬ badS l p m mu i a b) : applyE n l p m mu i a b = appE n l p m (mu, i.toNat, a.toNat, b.toNat) := (if_pos h).trans (if_neg h3)
theorem min_neg {a b : Int} (h : (if b < a then b else a) < 0) : a < 0 ∨ b < 0 := by split at h <;> omega
theorem max_big {a b k : Int} (h : k ≤ (if a < b then b else a)) : k ≤ a ∨ k ≤ b := by split at h <;> omega
theorem min_nn {a b : Int} (h : ¬ (if b < a then b else a) < 0) : 0 ≤ a ∧ 0 ≤ b := by split at h <;> omega
theorem max_sm {a b k : Int} (h : ¬ k ≤ (if a < b then b else a)) : a < k ∧ b < k := by split at h <;> omega
def stQ (x y : St) : Bool := (x.1 == y.1) && (decide ((x.2.1 : Int) = (y.2.1 : Int)) && (decide ((x.2.2.1 : Int) = (y.2.2.1 : Int)) && decide ((x.2.2.2 : Int) = (y.2.2.2 : Int))))
theorem stQ_iff {x y : St} : stQ x y = true ↔ x = y := by
  obtain ⟨a, b, c, d⟩ := x
  obtain ⟨a', b', c', d'⟩ := y
  unfold stQ
  rw [Bool.and_eq_true, Bool.and_eq_true, Bool.and_eq_true, decide_eq_true_iff, decide_eq_true_iff, decide_eq_true_iff, beq_iff_eq]
  constructor
  · rintro ⟨h1, h2, h3, h4⟩
    have h1 : a = a' := h1
    have h2 : (b : Int) = b' := h2
    have h3 : (c : Int) = c' := h3
    have h4 : (d : Int) = d' := h4
    rw [h1, Int.ofNat.inj h2, Int.ofNat.inj h3, Int.ofNat.inj h4]
  · intro h
    simp only [Prod.mk.injEq] at h
    obtain ⟨rfl, rfl, rfl, rfl⟩ := h
    exact ⟨rfl, rfl, rfl, rfl⟩
theorem st_ne {x y : St} (h : (!stQ x y) = true) : ¬ x = y := fun e => by
  rw [stQ_iff.2 e] at h
  cases h
theorem st_eq {x y : St} (h : (!stQ x y) = false) : x = y := stQ_iff.1 (by rw [Bool.not_eq_false'] at h; exact h)
end Go.Hx
end
