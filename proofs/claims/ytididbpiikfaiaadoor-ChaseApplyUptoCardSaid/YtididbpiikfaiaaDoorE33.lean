/- A part of the proof: lemmas for the theorem of this claim, merged by a program of ours out of X24, Ch20, Ch21, X25. -/
import Derived.Test.YtididbpiikfaiaaDoorE32
set_option linter.all false
section
namespace Go.Hx
open Go.Proofs
set_option maxRecDepth 100000
theorem good53 : goodFn Tryd.prog 53 := ⟨Tryd.f53, Tryd.func53, by kernel_rfl, by kernel_rfl⟩
theorem cRNext (n : Int) (l : List Rw) (p m : List Fd) (hT : tok n l = true) (hp : p.length ≤ 64) (hm : m.length ≤ 64) : HPure Tryd.prog 53 [pT n l, pP (fdl p), pP (fdl m)] (prOf [St.pc ((nextK l p m).getD (false, 0, 0, 0)), pB (nextK l p m).isSome]) := by
  refine hpure_of (nt := 66) Trydok Tryd.func53 rfl rfl (Nat.le_of_ble_eq_true rfl) ?_; refine hw_seq ?_
  obtain ⟨hn0, hn16, hl256, hrow⟩ := tok_get hT
  refine hw_bt 1 rfl fun hn1 => ?_
  refine hw_bt 2 rfl fun hn2 => ?_
  refine hw_region (E := TrydE) Trydok ?_; refine rm 0 rfl rfl rfl rfl rfl rfl ?_; refine rm 1 rfl rfl rfl rfl rfl rfl ?_; refine rq rfl rfl rfl rfl rfl ?_; refine rg_nil ?_; show HW _ _ _ _ _; (iterate 2 refine hw_seq ?_)
  refine hw_region (E := TrydE) Trydok ?_; refine rq rfl rfl rfl rfl rfl ?_; refine rg_nil ?_; show HW _ _ _ _ _; refine hw_block ?_
  refine hw_loopK (ι := Nat) ⟨[(1, some _), (2, some _), (3, some _), (6, some _)], [(0, some _), (1, some _)]⟩ ⟨⟨⟨_, rfl, CoR.refl _⟩, ⟨_, rfl, CoR.refl _⟩, ⟨_, rfl, CoR.refl _⟩, ⟨_, rfl, CoR.refl _⟩, trivial⟩, ⟨⟨_, rfl, CoO.refl _⟩, ⟨_, rfl, CoO.refl _⟩, trivial⟩⟩ (fun k => ⟨[(8, some (vI k))], []⟩) (fun k => k ≤ p.length + m.length ∧ ∀ i', i' < k → ∀ a', a' < l.length → ∀ b', b' < l.length → stepK l p m i' a' b' = false) (fun k => p.length + m.length - k) (0) (⟨Nat.zero_le _, all_zero⟩) ⟨⟨⟨_, rfl, (by first | exact CoR.refl _ | exact coi (by omega) | exact cob (by simp_all))⟩, trivial⟩, trivial⟩ ?_
  rintro k ⟨hk, hK⟩
  (iterate 2 refine hw_seq ?_); refine hw_region (E := TrydE) Trydok ?_; (iterate 7 refine rq rfl rfl rfl rfl rfl ?_); refine rg_nil ?_; show HW _ _ _ _ _; refine hw_cond _ rfl (fun r0 => ?_) (fun r0 => ?_)
  · skip
    have h0 := r0
    have h0 := of_decide_eq_true h0
    try simp only [Int.toNat_natCast] at h0
    refine hw_skip ?_; show HW _ _ _ _ _; refine hw_seq ?_; refine hw_block ?_; refine hw_seq ?_; refine hw_region (E := TrydE) Trydok ?_; (iterate 2 refine rq rfl rfl rfl rfl rfl ?_); refine rm 2 rfl rfl rfl rfl rfl rfl ?_
    refine rs rfl rfl rfl rfl rfl ?_; refine rg_nil ?_; show HW _ _ _ _ _
    refine hw_joinK (ι := Unit) ⟨[(1, some _), (2, some _), (3, some _), (6, some _), (8, some _), (9, some _)], [(0, some _), (1, some _)]⟩ ⟨⟨⟨_, rfl, CoR.refl _⟩, ⟨_, rfl, CoR.refl _⟩, ⟨_, rfl, CoR.refl _⟩, ⟨_, rfl, CoR.refl _⟩, ⟨_, rfl, CoR.refl _⟩, ⟨_, rfl, CoR.refl _⟩, trivial⟩, ⟨⟨_, rfl, CoO.refl _⟩, ⟨_, rfl, CoO.refl _⟩, trivial⟩⟩ (fun _i => ⟨[], [(2, some (.box [.p (.raw (.bool (muK p k))), .p (.raw (.int .i64 (ixK p k : Int))), .p (.raw (.int .i64 0)), .p (.raw (.int .i64 0))]))]⟩) (fun _i => True) ?_ ?_
    · skip
      refine hw_seq ?_; refine hw_region (E := TrydE) Trydok ?_; (iterate 4 refine rq rfl rfl rfl rfl rfl ?_); refine rg_nil ?_; show HW _ _ _ _ _; refine hw_cond _ rfl (fun r1 => ?_) (fun r1 => ?_)
      · skip
        have h1 := r1
        have h1 := of_decide_eq_true h1
        try simp only [Int.toNat_natCast] at h1
        refine hw_region (E := TrydE) Trydok ?_; (iterate 5 refine rq rfl rfl rfl rfl rfl ?_); refine rs rfl rfl rfl rfl rfl ?_; refine rg_nil ?_; refine ⟨(), ?_, ?_⟩
        · trivial
        · exact ⟨⟨⟨_, rfl, CoR.refl _⟩, ⟨_, rfl, CoR.refl _⟩, ⟨_, rfl, CoR.refl _⟩, ⟨_, rfl, CoR.refl _⟩, ⟨_, rfl, CoR.refl _⟩, ⟨_, rfl, CoR.refl _⟩, trivial⟩, ⟨⟨_, rfl, (by unfold muK ixK; first | (rw [decide_eq_true (by omega), if_pos (by omega)]; refine ⟨CoP.refl _, CoP.of_eq (by congr 2; omega), CoP.refl _, CoP.refl _, trivial⟩) | (rw [decide_eq_false (by omega), if_neg (by omega)]; exact ⟨CoP.refl _, CoP.refl _, CoP.refl _, CoP.refl _, trivial⟩))⟩, ⟨_, rfl, CoO.refl _⟩, ⟨_, rfl, CoO.refl _⟩, trivial⟩⟩
      · skip
        have h1 := r1
        have h1 := of_decide_eq_false h1
        try simp only [Int.toNat_natCast] at h1
        refine hw_skip ?_; refine ⟨(), ?_, ?_⟩
        · trivial
        · exact ⟨⟨⟨_, rfl, CoR.refl _⟩, ⟨_, rfl, CoR.refl _⟩, ⟨_, rfl, CoR.refl _⟩, ⟨_, rfl, CoR.refl _⟩, ⟨_, rfl, CoR.refl _⟩, ⟨_, rfl, CoR.refl _⟩, trivial⟩, ⟨⟨_, rfl, (by unfold muK ixK; first | (rw [decide_eq_true (by omega), if_pos (by omega)]; refine ⟨CoP.refl _, CoP.of_eq (by congr 2; omega), CoP.refl _, CoP.refl _, trivial⟩) | (rw [decide_eq_false (by omega), if_neg (by omega)]; exact ⟨CoP.refl _, CoP.refl _, CoP.refl _, CoP.refl _, trivial⟩))⟩, ⟨_, rfl, CoO.refl _⟩, ⟨_, rfl, CoO.refl _⟩, trivial⟩⟩
    · rintro _ _
      refine hw_seq ?_; refine hw_region (E := TrydE) Trydok ?_; refine rq rfl rfl rfl rfl rfl ?_; refine rs rfl rfl rfl rfl rfl ?_; refine rg_nil ?_; show HW _ _ _ _ _; refine hw_block ?_
      refine hw_loopK (ι := Nat × Nat) ⟨[(1, some _), (2, some _), (3, some _), (6, some _), (8, some _), (9, some _)], [(0, some _), (1, some _)]⟩ ⟨⟨⟨_, rfl, CoR.refl _⟩, ⟨_, rfl, CoR.refl _⟩, ⟨_, rfl, CoR.refl _⟩, ⟨_, rfl, CoR.refl _⟩, ⟨_, rfl, CoR.refl _⟩, ⟨_, rfl, CoR.refl _⟩, trivial⟩, ⟨⟨_, rfl, CoO.refl _⟩, ⟨_, rfl, CoO.refl _⟩, trivial⟩⟩ (fun y => ⟨[], [(2, some (.box [.p (.raw (.bool (muK p k))), .p (.raw (.int .i64 (ixK p k : Int))), .p (.raw (.int .i64 (y.1 : Int))), .p (.raw (.int .i64 (y.2 : Int)))]))]⟩) (fun y => y.1 ≤ l.length ∧ ∀ a', a' < y.1 → ∀ b', b' < l.length → stepK l p m k a' b' = false) (fun y => l.length - y.1) ((0, 0)) (⟨Nat.zero_le _, all_zero⟩) ⟨trivial, ⟨⟨_, rfl, CoO.refl _⟩, trivial⟩⟩ ?_
      rintro y ⟨hy, hA⟩
      (iterate 2 refine hw_seq ?_); refine hw_region (E := TrydE) Trydok ?_; (iterate 6 refine rq rfl rfl rfl rfl rfl ?_); refine rg_nil ?_; show HW _ _ _ _ _; refine hw_cond _ rfl (fun r2 => ?_) (fun r2 => ?_)
      · skip
        have h2 := r2
        have h2 := of_decide_eq_true h2
        try simp only [Int.toNat_natCast] at h2
        refine hw_skip ?_; show HW _ _ _ _ _; refine hw_seq ?_; refine hw_block ?_; refine hw_seq ?_; refine hw_region (E := TrydE) Trydok ?_; refine rq rfl rfl rfl rfl rfl ?_; refine rs rfl rfl rfl rfl rfl ?_; refine rg_nil ?_
        show HW _ _ _ _ _; refine hw_block ?_
        refine hw_loopK (ι := Nat) ⟨[(1, some _), (2, some _), (3, some _), (6, some _), (8, some _), (9, some _)], [(0, some _), (1, some _)]⟩ ⟨⟨⟨_, rfl, CoR.refl _⟩, ⟨_, rfl, CoR.refl _⟩, ⟨_, rfl, CoR.refl _⟩, ⟨_, rfl, CoR.refl _⟩, ⟨_, rfl, CoR.refl _⟩, ⟨_, rfl, CoR.refl _⟩, trivial⟩, ⟨⟨_, rfl, CoO.refl _⟩, ⟨_, rfl, CoO.refl _⟩, trivial⟩⟩ (fun b => ⟨[], [(2, some (.box [.p (.raw (.bool (muK p k))), .p (.raw (.int .i64 (ixK p k : Int))), .p (.raw (.int .i64 (y.1 : Int))), .p (.raw (.int .i64 (b : Int)))]))]⟩) (fun b => b ≤ l.length ∧ ∀ b', b' < b → stepK l p m k y.1 b' = false) (fun b => l.length - b) (0) (⟨Nat.zero_le _, all_zero⟩) ⟨trivial, ⟨⟨_, rfl, CoO.refl _⟩, trivial⟩⟩ ?_
        rintro b ⟨hb, hB⟩
        (iterate 2 refine hw_seq ?_); refine hw_region (E := TrydE) Trydok ?_; (iterate 6 refine rq rfl rfl rfl rfl rfl ?_); refine rg_nil ?_; show HW _ _ _ _ _; refine hw_cond _ rfl (fun r3 => ?_) (fun r3 => ?_)
        · skip
          have h3 := r3
          have h3 := of_decide_eq_true h3
          try simp only [Int.toNat_natCast] at h3
          refine hw_skip ?_; show HW _ _ _ _ _; refine hw_seq ?_; refine hw_block ?_; refine hw_seq ?_; refine hw_region (E := TrydE) Trydok ?_; (iterate 6 refine rq rfl rfl rfl rfl rfl ?_)
          refine rsplit rfl rfl (fun r4 => ?_) (fun r4 => ?_)
          · skip
            have h4 := r4
            have h4 := of_decide_eq_false (not_t h4)
            try simp only [Int.toNat_natCast] at h4
            (iterate 4 refine rq rfl rfl rfl rfl (gtt r4) ?_); refine rc rfl rfl rfl rfl rfl rfl good71 (cCh n l p m k y.1 b hT (by omega) (by omega) (by omega)) (CoL.refl _) rfl (gtt r4) ?_; refine rq rfl rfl rfl rfl rfl ?_
            refine rg_nil ?_; show HW _ _ _ _ _; refine hw_cond _ rfl (fun r5 => ?_) (fun r5 => ?_)
            · skip
              have h5 := r5
              have h5 := bif_t r4 h5
              refine hw_seq ?_; refine hw_region (E := TrydE) Trydok ?_; refine rq rfl rfl rfl rfl rfl ?_; refine rs rfl rfl rfl rfl rfl ?_; refine rq rfl rfl rfl rfl rfl ?_; refine rg_nil ?_; show HW _ _ _ _ _; refine hw_ret ?_
              refine ⟨.inr rfl, ?_⟩
              have he := nextK_t (firstF_some (P := stepK l p m) (i := k) (a := y.1) (b := b) (by omega) (by omega) (by omega) (stepK_t (by omega) (by assumption)) hK hA hB)
              exact ⟨_, _, _, _, rfl, (by (repeat' apply And.intro) <;> first | trivial | exact Nat.le_of_ble_eq_true rfl | rfl), rfl, (by (repeat' apply And.intro) <;> first | trivial | exact Nat.le_of_ble_eq_true rfl | rfl), by rw [he]; exact CoL.refl _⟩
            · skip
              have h5 := r5
              have h5 := bif_t r4 h5
              refine hw_skip ?_; show HW _ _ _ _ _; refine hw_region (E := TrydE) Trydok ?_; (iterate 4 refine rq rfl rfl rfl rfl rfl ?_); refine rs rfl rfl rfl rfl rfl ?_; refine rg_nil ?_; refine ⟨b + 1, ?_, ?_, ?_⟩
              · exact ⟨by show b + 1 ≤ _; omega, all_succ hB (by first | exact stepK_f1 (by omega) | exact stepK_f2 (by assumption))⟩
              · first | omega | (dsimp only; omega)
              · exact ⟨⟨⟨_, rfl, CoR.refl _⟩, ⟨_, rfl, CoR.refl _⟩, ⟨_, rfl, CoR.refl _⟩, ⟨_, rfl, CoR.refl _⟩, ⟨_, rfl, CoR.refl _⟩, ⟨_, rfl, CoR.refl _⟩, trivial⟩, ⟨⟨_, rfl, CoO.refl _⟩, ⟨_, rfl, CoO.refl _⟩, ⟨_, rfl, CoO.refl _⟩, trivial⟩⟩
          · skip
            have h4 := r4
            have h4 := of_decide_eq_true (not_f h4)
            try simp only [Int.toNat_natCast] at h4
            (iterate 5 refine rk rfl rfl rfl (gft r4) ?_); refine rq rfl rfl rfl rfl rfl ?_ (hp := r4); refine rg_nil ?_; show HW _ _ _ _ _; refine hw_cond _ rfl (fun e => by cases e) (fun _ => ?_); refine hw_skip ?_
            show HW _ _ _ _ _; refine hw_region (E := TrydE) Trydok ?_; (iterate 4 refine rq rfl rfl rfl rfl rfl ?_); refine rs rfl rfl rfl rfl rfl ?_; refine rg_nil ?_; refine ⟨b + 1, ?_, ?_, ?_⟩
            · exact ⟨by show b + 1 ≤ _; omega, all_succ hB (by first | exact stepK_f1 (by omega) | exact stepK_f2 (by assumption))⟩
            · first | omega | (dsimp only; omega)
            · exact ⟨⟨⟨_, rfl, CoR.refl _⟩, ⟨_, rfl, CoR.refl _⟩, ⟨_, rfl, CoR.refl _⟩, ⟨_, rfl, CoR.refl _⟩, ⟨_, rfl, CoR.refl _⟩, ⟨_, rfl, CoR.refl _⟩, trivial⟩, ⟨⟨_, rfl, CoO.refl _⟩, ⟨_, rfl, CoO.refl _⟩, ⟨_, rfl, CoO.refl _⟩, trivial⟩⟩
        · skip
          have h3 := r3
          have h3 := of_decide_eq_false h3
          try simp only [Int.toNat_natCast] at h3
          refine hw_exit ?_; show HW _ _ _ _ _; refine hw_region (E := TrydE) Trydok ?_; (iterate 4 refine rq rfl rfl rfl rfl rfl ?_); refine rs rfl rfl rfl rfl rfl ?_; refine rg_nil ?_; refine ⟨(y.1 + 1, b), ?_, ?_, ?_⟩
          · exact ⟨by show y.1 + 1 ≤ _; omega, all_succ hA (fun b' hb' => hB b' (by omega))⟩
          · first | omega | (dsimp only; omega)
          · exact ⟨⟨⟨_, rfl, CoR.refl _⟩, ⟨_, rfl, CoR.refl _⟩, ⟨_, rfl, CoR.refl _⟩, ⟨_, rfl, CoR.refl _⟩, ⟨_, rfl, CoR.refl _⟩, ⟨_, rfl, CoR.refl _⟩, trivial⟩, ⟨⟨_, rfl, CoO.refl _⟩, ⟨_, rfl, CoO.refl _⟩, ⟨_, rfl, CoO.refl _⟩, trivial⟩⟩
      · skip
        have h2 := r2
        have h2 := of_decide_eq_false h2
        try simp only [Int.toNat_natCast] at h2
        refine hw_exit ?_; show HW _ _ _ _ _; refine hw_region (E := TrydE) Trydok ?_; (iterate 3 refine rq rfl rfl rfl rfl rfl ?_); refine rg_nil ?_; refine ⟨k + 1, ?_, ?_, ?_⟩
        · exact ⟨by show k + 1 ≤ _; omega, all_succ hK (fun a' ha' => hA a' (by omega))⟩
        · first | omega | (dsimp only; omega)
        · exact ⟨⟨⟨_, rfl, (by first | exact CoR.refl _ | exact coi (by omega) | exact cob (by simp_all))⟩, ⟨_, rfl, CoR.refl _⟩, ⟨_, rfl, CoR.refl _⟩, ⟨_, rfl, CoR.refl _⟩, ⟨_, rfl, CoR.refl _⟩, trivial⟩, ⟨⟨_, rfl, CoO.refl _⟩, ⟨_, rfl, CoO.refl _⟩, trivial⟩⟩
  · skip
    have h0 := r0
    have h0 := of_decide_eq_false h0
    try simp only [Int.toNat_natCast] at h0
    refine hw_exit ?_; show HW _ _ _ _ _; refine hw_seq ?_; refine hw_region (E := TrydE) Trydok ?_; refine rq rfl rfl rfl rfl rfl ?_; refine rs rfl rfl rfl rfl rfl ?_; refine rq rfl rfl rfl rfl rfl ?_; refine rg_nil ?_
    show HW _ _ _ _ _; refine hw_ret ?_; refine ⟨.inr rfl, ?_⟩
    have he := nextK_n (firstF_none (P := stepK l p m) (I := p.length + m.length) (L := l.length) fun j hj => hK j (by omega))
    exact ⟨_, _, _, _, rfl, (by (repeat' apply And.intro) <;> first | trivial | exact Nat.le_of_ble_eq_true rfl | rfl), rfl, (by (repeat' apply And.intro) <;> first | trivial | exact Nat.le_of_ble_eq_true rfl | rfl), by rw [he]; exact CoL.refl _⟩
end Go.Hx
end
section
namespace Go.Hx
theorem fs_congr {α : Type} {f g : Nat → Option α} : ∀ {ks : List Nat}, (∀ k, k ∈ ks → f k = g k) → ks.findSome? f = ks.findSome? g
  | [], _ => rfl
  | k :: ks, h => by
    have h1 := h k (by simp)
    have h2 := fs_congr (ks := ks) fun j hj => h j (by simp [hj])
    simp only [List.findSome?_cons, h1, h2]
theorem fd_congr {p q : Nat → Bool} : ∀ {ks : List Nat}, (∀ k, k ∈ ks → p k = q k) → ks.find? p = ks.find? q
  | [], _ => rfl
  | k :: ks, h => by
    have h1 := h k (by simp)
    have h2 := fd_congr (ks := ks) fun j hj => h j (by simp [hj])
    simp only [List.find?_cons, h1, h2]
theorem hasI_or {s t : AS} {i : Nat} : hasI (s ||| t) (i : Int) = (hasI s (i : Int) || hasI t (i : Int)) := by
  by_cases h : i < 32
  · rw [hasI_nat h, hasI_nat h, hasI_nat h, BitVec.getLsbD_or]
  · rw [hasI_f (by omega), hasI_f (by omega), hasI_f (by omega)]
    rfl
theorem mix_agr {a b : Rw} {s t : AS} (hl : a.length = b.length) (h : agrZ a b s = true) : mixZ a b t = mixZ a b (s ||| t) := by
  have h := of_decide_eq_true h
  unfold mixZ
  refine List.map_congr_left fun i hi => ?_
  have hi := List.mem_range.1 hi
  rw [hasI_or]
  by_cases h1 : hasI s (i : Int) = true
  · have := h i (by omega) h1
    rw [h1, Bool.true_or, if_pos rfl]
    split
    · rfl
    · exact this.symm
  · rw [Bool.eq_false_iff.2 h1, Bool.false_or]
theorem mix_self (a : Rw) (s : AS) : mixZ a a s = a := by
  refine list_eq (mixZ_len a a s) fun j hj => ?_
  rw [mixZ_len] at hj
  unfold mixZ
  rw [List.getD_eq_getElem?_getD, List.getElem?_map, List.getElem?_range hj]
  show (if hasI s (j : Int) = true then a.getD j default else a.getD j default) = _
  split <;> rfl
theorem stepF_same {l : List Rw} {x : Fd} {a : Nat} : stepF l x a a = false := stepF_f2 (agrZ_t fun _ _ _ => rfl)
theorem stepM_same {l : List Rw} {x : Fd} {a : Nat} (ha : a < l.length) : stepM l x a a = false := by
  refine stepM_f2 ?_
  rw [mix_self, List.any_eq_true]
  exact ⟨_, getZ_in ha, decide_eq_true rfl⟩
theorem stepR_eq {n : Int} {l : List Rw} {x : Fd} {a b : Nat} (hT : tok n l = true) (ha : a < l.length) (hb : b < l.length) : stepR l x a b = stepM l x a b := by
  obtain ⟨_, _, _, h3⟩ := tok_get hT
  unfold stepR stepM
  by_cases h : agrZ (l.getD a default) (l.getD b default) x.lhs = true
  · rw [mix_agr (by rw [h3 a ha, h3 b hb]) h]
  · rw [Bool.eq_false_iff.2 h]; rfl
theorem stepK_F {l : List Rw} {p m : List Fd} {k a b : Nat} (hk : k < p.length) : stepK l p m k a b = stepF l (p.getD k default) a b := by
  have e1 : muK p k = false := decide_eq_false (by omega)
  have e2 : ixK p k = k := if_neg (by omega)
  unfold stepK
  rw [e1, e2]
  by_cases h : a = b
  · subst h; rw [stepF_same, decide_eq_false (fun e => e rfl)]; rfl
  · rw [decide_eq_true h]; rfl
theorem stepK_M {n : Int} {l : List Rw} {p m : List Fd} {k a b : Nat} (hT : tok n l = true) (ha : a < l.length) (hb : b < l.length) : stepK l p m (p.length + k) a b = stepM l (m.getD k default) a b := by
  have e1 : muK p (p.length + k) = true := decide_eq_true (by omega)
  have e2 : ixK p (p.length + k) = k := (if_pos (by omega)).trans (by omega)
  unfold stepK
  rw [e1, e2]
  by_cases h : a = b
  · subst h; rw [stepM_same ha, decide_eq_false (fun e => e rfl)]; rfl
  · rw [decide_eq_true h, ← stepR_eq hT ha hb]; rfl
theorem nextK_eq {n : Int} {l : List Rw} {p m : List Fd} (hT : tok n l = true) : nextK l p m = nextE l p m := by
  have e1 : (List.range p.length).findSome? (fun i => (List.range l.length).findSome? fun a => ((List.range l.length).find? fun b => stepK l p m i a b).map fun b => (i, a, b)) = firstF (fun i a b => stepF l (p.getD i default) a b) p.length l.length :=
    fs_congr fun i hi => fs_congr fun a _ => by rw [fd_congr fun b _ => stepK_F (List.mem_range.1 hi)]
  have e2 : (List.range m.length).findSome? (fun i => (List.range l.length).findSome? fun a => ((List.range l.length).find? fun b => stepK l p m (p.length + i) a b).map fun b => (p.length + i, a, b)) = (firstF (fun i a b => stepM l (m.getD i default) a b) m.length l.length).map fun x => (p.length + x.1, x.2) := by
    unfold firstF
    rw [List.map_findSome?]
    refine fs_congr fun i _ => ?_
    show _ = Option.map _ ((List.range l.length).findSome? _)
    rw [List.map_findSome?]
    refine fs_congr fun a ha => ?_
    rw [fd_congr fun b hb => stepK_M hT (List.mem_range.1 ha) (List.mem_range.1 hb)]
    show _ = Option.map _ (Option.map _ _)
    rw [Option.map_map]
    rfl
  have e : firstF (stepK l p m) (p.length + m.length) l.length = (firstF (fun i a b => stepF l (p.getD i default) a b) p.length l.length).or ((firstF (fun i a b => stepM l (m.getD i default) a b) m.length l.length).map fun x => (p.length + x.1, x.2)) := by
    rw [← e1, ← e2]
    unfold firstF
    rw [List.range_add, List.findSome?_append, List.findSome?_map]
    rfl
  unfold nextK nextE
  rw [e]
  cases h : firstF (fun i a b => stepF l (p.getD i default) a b) p.length l.length with
  | some x =>
    obtain ⟨i, a, b⟩ := x
    have hi := (firstF_get h).1
    show some (muK p i, ixK p i, a, b) = some (false, i, a, b)
    rw [show muK p i = false from decide_eq_false (by omega), show ixK p i = i from if_neg (by omega)]
  | none =>
    rw [Option.none_or]
    cases firstF (fun i a b => stepM l (m.getD i default) a b) m.length l.length with
    | none => rfl
    | some x =>
      obtain ⟨i, a, b⟩ := x
      show some (muK p (p.length + i), ixK p (p.length + i), a, b) = some (true, i, a, b)
      rw [show muK p (p.length + i) = true from decide_eq_true (by omega), show ixK p (p.length + i) = i from (if_pos (by omega)).trans (by omega)]
end Go.Hx
end
section
namespace Go.Hx
def badS (l : List Rw) (p m : List Fd) (mu : Bool) (i a b : Int) : Prop := a < 0 ∨ (l.length : Int) ≤ a ∨ b < 0 ∨ (l.length : Int) ≤ b ∨ a = b ∨ i < 0 ∨ (mu = true ∧ (m.length : Int) ≤ i) ∨ (mu = false ∧ (p.length : Int) ≤ i)
instance (l : List Rw) (p m : List Fd) (mu : Bool) (i a b : Int) : Decidable (badS l p m mu i a b) := by unfold badS; infer_instance
def applyE (n : Int) (l : List Rw) (p m : List Fd) (mu : Bool) (i a b : Int) : Int × List Rw × Int :=
  if ckE n l p m = 0 then if badS l p m mu i a b then (0, [], 1) else appE n l p m (mu, i.toNat, a.toNat, b.toNat) else (0, [], ckE n l p m)
section
variable {n : Int} {l : List Rw} {p m : List Fd} {mu : Bool} {i a b : Int}
theorem applyE_0 (h : tok n l = false) : applyE n l p m mu i a b = (0, [], 1) := by
  have e : ckE n l p m = 1 := if_neg (by rw [h]; decide)
  unfold applyE
  rw [e]
  rfl
theorem applyE_1 (h : tok n l = true) (h2 : ¬ bErr n p m = 0) : applyE n l p m mu i a b = (0, [], bErr n p m) := by
  have e : ckE n l p m = bErr n p m := if_pos h
  unfold applyE
  rw [e, if_neg h2]
theorem applyE_2 (h : tok n l = true) (h2 : bErr n p m = 0) (h3 : badS l p m mu i a b) : applyE n l p m mu i a b = (0, [], 1) := by
  have e : ckE n l p m = bErr n p m := if_pos h
  unfold applyE
  rw [e, if_pos h2, if_pos h3]
theorem applyE_3 (h : tok n l = true) (h2 : bErr n p m = 0) (h3 : ¬ badS l p m mu i a b) : applyE n l p m mu i a b = appE n l p m (mu, i.toNat, a.toNat, b.toNat) := by
  have e : ckE n l p m = bErr n p m := if_pos h
  unfold applyE
  rw [e, if_pos h2, if_neg h3]
end
end Go.Hx
end
section
namespace Go.Hx
open Go.Proofs
set_option maxRecDepth 100000
theorem good32 : goodFn Tryd.prog 32 := ⟨Tryd.f32, Tryd.func32, by kernel_rfl, by kernel_rfl⟩
theorem cRSat (n : Int) (l : List Rw) (p m : List Fd) : HPure Tryd.prog 32 [pT n l, pP (fdl p), pP (fdl m)] (prOf [pB (decide (ckE n l p m = 0) && (nextE l p m).isNone)]) := by
  refine hpure_of (nt := 29) Trydok Tryd.func32 rfl rfl (Nat.le_of_ble_eq_true rfl) ?_; refine hw_seq ?_; refine hw_region (E := TrydE) Trydok ?_; refine rm 0 rfl rfl rfl rfl rfl rfl ?_; refine rq rfl rfl rfl rfl rfl ?_
  refine rg_nil ?_; show HW _ _ _ _ _; (iterate 2 refine hw_seq ?_); refine hw_region (E := TrydE) Trydok ?_; refine rq rfl rfl rfl rfl rfl ?_; refine rc rfl rfl rfl rfl rfl rfl good15 (cRTValid n l) (CoL.refl _) rfl rfl ?_
  (iterate 2 refine rq rfl rfl rfl rfl rfl ?_); refine rsplit rfl rfl (fun r0 => ?_) (fun r0 => ?_)
  · skip
    have h0 := r0
    have h0 := not_t h0
    (iterate 6 refine rk rfl rfl rfl (gtf r0) ?_); refine rq rfl rfl rfl rfl rfl ?_ (hp := r0); refine rg_nil ?_; show HW _ _ _ _ _; refine hw_cond _ rfl (fun _ => ?_) (fun e => by cases e); refine hw_seq ?_
    refine hw_region (E := TrydE) Trydok ?_; refine rq rfl rfl rfl rfl rfl ?_; refine rg_nil ?_; show HW _ _ _ _ _; refine hw_ret ?_; refine ⟨.inr rfl, ?_⟩
    have hck : ¬ ckE n l p m = 0 := by unfold ckE; simp_all
    exact ⟨_, _, _, _, rfl, (by (repeat' apply And.intro) <;> first | trivial | exact Nat.le_of_ble_eq_true rfl | rfl), rfl, (by (repeat' apply And.intro) <;> first | trivial | exact Nat.le_of_ble_eq_true rfl | rfl), ⟨ccb (by rw [decide_eq_false hck]; rfl), trivial⟩⟩
  · skip
    have h0 := r0
    have h0 := not_f h0
    (iterate 4 refine rq rfl rfl rfl rfl (gff r0) ?_); refine rc rfl rfl rfl rfl rfl rfl good51 (cRBValid n p m) (CoL.refl _) rfl (gff r0) ?_; refine rq rfl rfl rfl rfl (gff r0) ?_; refine rq rfl rfl rfl rfl rfl ?_; refine rg_nil ?_
    show HW _ _ _ _ _; refine hw_cond _ rfl (fun r1 => ?_) (fun r1 => ?_)
    · skip
      have h1 := r1
      have h1 := bif_f r0 h1
      have h1 := of_decide_eq_false (not_t h1)
      try simp only [Int.toNat_natCast] at h1
      refine hw_seq ?_; refine hw_region (E := TrydE) Trydok ?_; refine rq rfl rfl rfl rfl rfl ?_; refine rg_nil ?_; show HW _ _ _ _ _; refine hw_ret ?_; refine ⟨.inr rfl, ?_⟩
      have hck : ¬ ckE n l p m = 0 := by unfold ckE; simp_all
      exact ⟨_, _, _, _, rfl, (by (repeat' apply And.intro) <;> first | trivial | exact Nat.le_of_ble_eq_true rfl | rfl), rfl, (by (repeat' apply And.intro) <;> first | trivial | exact Nat.le_of_ble_eq_true rfl | rfl), ⟨ccb (by rw [decide_eq_false hck]; rfl), trivial⟩⟩
    · skip
      have h1 := r1
      have h1 := bif_f r0 h1
      have h1 := of_decide_eq_true (not_f h1)
      try simp only [Int.toNat_natCast] at h1
      have hT : tok n l = true := by simp_all
      have hbe : bErr n p m = 0 := by simp_all
      have hck : ckE n l p m = 0 := (if_pos hT).trans hbe
      refine hw_skip ?_; show HW _ _ _ _ _; refine hw_seq ?_; refine hw_region (E := TrydE) Trydok ?_; (iterate 3 refine rq rfl rfl rfl rfl rfl ?_)
      refine rc rfl rfl rfl rfl rfl rfl good53 (cRNext n l p m hT (by have := bErr_ok hbe; omega) (by have := bErr_ok hbe; omega)) (CoL.refl _) rfl rfl ?_; (iterate 3 refine rq rfl rfl rfl rfl rfl ?_)
      refine rm 1 rfl rfl rfl rfl rfl rfl ?_; refine rs rfl rfl rfl rfl rfl ?_; refine rq rfl rfl rfl rfl rfl ?_; refine rg_nil ?_; show HW _ _ _ _ _; refine hw_seq ?_; refine hw_region (E := TrydE) Trydok ?_
      (iterate 3 refine rq rfl rfl rfl rfl rfl ?_); refine rg_nil ?_; show HW _ _ _ _ _; refine hw_ret ?_; refine ⟨.inr rfl, ?_⟩
      exact ⟨_, _, _, _, rfl, (by (repeat' apply And.intro) <;> first | trivial | exact Nat.le_of_ble_eq_true rfl | rfl), rfl, (by (repeat' apply And.intro) <;> first | trivial | exact Nat.le_of_ble_eq_true rfl | rfl), ⟨ccb (by rw [nextK_eq hT, decide_eq_true hck]; cases nextE l p m <;> rfl), trivial⟩⟩
end Go.Hx
end
