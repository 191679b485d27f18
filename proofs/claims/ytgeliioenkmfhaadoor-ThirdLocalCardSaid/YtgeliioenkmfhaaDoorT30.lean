/- A part of the proof: lemmas for the theorem of this claim, merged by a program of ours out of V29, Cs31. -/
import Derived.Test.YtgeliioenkmfhaaDoorT29
set_option linter.all false
section
namespace Go.Hx
open Go.Proofs
set_option maxRecDepth 100000
theorem good86 : goodFn Tryd.prog 86 := ⟨Tryd.f86, Tryd.func86, by kernel_rfl, by kernel_rfl⟩
theorem cTSubs (s : AS) : HPure Tryd.prog 86 [pA s] (prOf [pP (asl (tsubs s))]) := by
  refine hpure_of (nt := 18) Trydok Tryd.func86 rfl rfl (Nat.le_of_ble_eq_true rfl) ?_; refine hw_seq ?_; refine hw_region (E := TrydE) Trydok ?_; refine rq rfl rfl rfl rfl rfl ?_; refine rg_nil ?_; show HW _ _ _ _ _
  refine hw_seq ?_; refine hw_region (E := TrydE) Trydok ?_; refine rm 0 rfl rfl rfl rfl rfl rfl ?_; refine rq rfl rfl rfl rfl rfl ?_; refine rg_nil ?_; show HW _ _ _ _ _; (iterate 2 refine hw_seq ?_)
  refine hw_region (E := TrydE) Trydok ?_; (iterate 2 refine rq rfl rfl rfl rfl rfl ?_); refine rg_nil ?_; show HW _ _ _ _ _; refine hw_block ?_
  refine hw_loopK (ι := Nat × List AS × AS) ⟨[(0, some _)], []⟩ ⟨⟨⟨_, rfl, CoR.refl _⟩, trivial⟩, trivial⟩ (fun x => ⟨[(3, some (.v (.one (.ref 0 x.2.1.length)))), (4, some (vA x.2.2))], [(0, some (.arr true 1 30 x.2.1.length (lf sC x.2.1)))]⟩) (fun x => TsI s x) (fun x => x.1) ((s.toNat + 1, [0], s)) (ts_zero s) ⟨⟨⟨_, rfl, (by first | exact CoR.refl _ | exact coi (by omega) | exact cob (by simp_all))⟩, ⟨_, rfl, (by first | exact CoR.refl _ | exact coi (by omega) | exact cob (by simp_all))⟩, trivial⟩, ⟨⟨_, rfl, (arr_lit1 (CoP.refl _))⟩, trivial⟩⟩ ?_
  rintro x hx
  have hlen := hx.2
  have hsl := s.isLt
  (iterate 2 refine hw_seq ?_); refine hw_region (E := TrydE) Trydok ?_; (iterate 2 refine rq rfl rfl rfl rfl rfl ?_); refine rg_nil ?_; show HW _ _ _ _ _; refine hw_cond _ rfl (fun r0 => ?_) (fun r0 => ?_)
  · skip
    have h0 := r0
    have h0 := of_decide_eq_false (not_t h0)
    try simp only [Int.toNat_natCast] at h0
    have hne : x.2.2 ≠ 0 := fun e => h0 (by rw [e]; rfl)
    refine hw_skip ?_; show HW _ _ _ _ _; refine hw_seq ?_; refine hw_block ?_; refine hw_region (E := TrydE) Trydok ?_; (iterate 2 refine rq rfl rfl rfl rfl rfl ?_); refine rm 1 rfl rfl rfl rfl rfl rfl ?_
    refine ra 2 true rfl rfl rfl rfl rfl rfl ?_; refine rq rfl rfl rfl rfl rfl ?_; refine rg_nil ?_; show HW _ _ _ _ _; refine hw_region (E := TrydE) Trydok ?_; refine rq rfl rfl rfl rfl rfl ?_
    refine rq rfl rfl rfl rfl rfl ?_ (hp := (pred_pre hne)); (iterate 3 refine rq rfl rfl rfl rfl rfl ?_); refine rg_nil ?_; refine ⟨(x.1 - 1, x.2.1 ++ [x.2.2], (x.2.2 - 1) &&& s), ?_, ?_, ?_⟩
    · exact ts_next hx hne
    · dsimp only
      omega
    · exact ⟨⟨⟨_, rfl, (ref_app rfl)⟩, ⟨_, rfl, (cor_i (pred_and hne))⟩, ⟨_, rfl, CoR.refl _⟩, trivial⟩, ⟨⟨_, rfl, (arr_app1 rfl (CoP.refl _))⟩, trivial⟩⟩
  · skip
    have h0 := r0
    have h0 := of_decide_eq_true (not_f h0)
    try simp only [Int.toNat_natCast] at h0
    have hz : x.2.2 = 0 := asI_inj.1 h0
    refine hw_exit ?_; show HW _ _ _ _ _; refine hw_seq ?_; refine hw_region (E := TrydE) Trydok ?_; (iterate 2 refine rq rfl rfl rfl rfl rfl ?_); refine rg_nil ?_; refine hw_freeze 2 rfl rfl rfl ?_; show HW _ _ _ _ _
    refine hw_ret ?_; refine ⟨.inr rfl, ?_⟩
    exact ⟨_, _, _, _, rfl, (by (repeat' apply And.intro) <;> first | trivial | exact Nat.le_of_ble_eq_true rfl | rfl), rfl, (by (repeat' apply And.intro) <;> first | trivial | exact Nat.le_of_ble_eq_true rfl | rfl), ⟨CoC.one (CoP.of_eq (by rw [← ts_end hx hz]; rfl)), trivial⟩⟩
theorem good113 : goodFn Tryd.prog 113 := ⟨Tryd.f113, Tryd.func113, by kernel_rfl, by kernel_rfl⟩
theorem cTMin (l : List Fd) (p x : AS) : HPure Tryd.prog 113 [pP (fdl l), pA p, pA x] (prOf [pB (minL l p x)]) := by
  refine hpure_of (nt := 27) Trydok Tryd.func113 rfl rfl (Nat.le_of_ble_eq_true rfl) ?_; refine hw_seq ?_; refine hw_region (E := TrydE) Trydok ?_; refine rq rfl rfl rfl rfl rfl ?_; refine rg_nil ?_; show HW _ _ _ _ _
  (iterate 2 refine hw_seq ?_); refine hw_region (E := TrydE) Trydok ?_; (iterate 2 refine rq rfl rfl rfl rfl rfl ?_); refine rg_nil ?_; show HW _ _ _ _ _; refine hw_block ?_
  refine hw_loopK (ι := AS) ⟨[(0, some _), (1, some _), (2, some _)], []⟩ ⟨⟨⟨_, rfl, CoR.refl _⟩, ⟨_, rfl, CoR.refl _⟩, ⟨_, rfl, CoR.refl _⟩, trivial⟩, trivial⟩ (fun r => ⟨[(7, some (vA r))], []⟩) (fun r => MinI l p x r) (fun r => r.toNat) (x) (min_zero l p x) ⟨⟨⟨_, rfl, (by first | exact CoR.refl _ | exact coi (by omega) | exact cob (by simp_all))⟩, trivial⟩, trivial⟩ ?_
  rintro r hr
  (iterate 2 refine hw_seq ?_); refine hw_region (E := TrydE) Trydok ?_; (iterate 2 refine rq rfl rfl rfl rfl rfl ?_); refine rg_nil ?_; show HW _ _ _ _ _; refine hw_cond _ rfl (fun r0 => ?_) (fun r0 => ?_)
  · skip
    have h0 := r0
    have h0 := of_decide_eq_false (not_t h0)
    try simp only [Int.toNat_natCast] at h0
    have hne : r ≠ 0 := fun e => h0 (by rw [e]; rfl)
    have hlow := min_low hr hne
    refine hw_skip ?_; show HW _ _ _ _ _; refine hw_seq ?_; refine hw_block ?_; refine hw_seq ?_; refine hw_region (E := TrydE) Trydok ?_; (iterate 4 refine rq rfl rfl rfl rfl rfl ?_); refine rqw rfl rfl rfl rfl rfl ?_
    (iterate 2 refine rq rfl rfl rfl rfl rfl ?_); refine rc rfl rfl rfl rfl rfl rfl good46 (cClose l (noA x (lowB r))) (⟨CoC.refl _, cci (by rw [neg_v r hne rfl, bNot]; rfl), trivial⟩) rfl rfl ?_
    (iterate 4 refine rq rfl rfl rfl rfl rfl ?_); refine rg_nil ?_; show HW _ _ _ _ _; refine hw_cond _ rfl (fun r1 => ?_) (fun r1 => ?_)
    · skip
      have h1 := r1
      have h1 := of_decide_eq_true h1
      try simp only [Int.toNat_natCast] at h1
      refine hw_seq ?_; refine hw_region (E := TrydE) Trydok ?_; refine rq rfl rfl rfl rfl rfl ?_; refine rg_nil ?_; show HW _ _ _ _ _; refine hw_ret ?_; refine ⟨.inr rfl, ?_⟩
      exact ⟨_, _, _, _, rfl, (by (repeat' apply And.intro) <;> first | trivial | exact Nat.le_of_ble_eq_true rfl | rfl), rfl, (by (repeat' apply And.intro) <;> first | trivial | exact Nat.le_of_ble_eq_true rfl | rfl), ⟨ccb (minL_f hlow.1 hlow.2 (supP_v.symm.trans (decide_eq_true (by assumption)))).symm, trivial⟩⟩
    · skip
      have h1 := r1
      have h1 := of_decide_eq_false h1
      try simp only [Int.toNat_natCast] at h1
      refine hw_skip ?_; show HW _ _ _ _ _; refine hw_region (E := TrydE) Trydok ?_; (iterate 2 refine rq rfl rfl rfl rfl rfl ?_); refine rq rfl rfl rfl rfl rfl ?_ (hp := (pred_pre hne)); (iterate 2 refine rq rfl rfl rfl rfl rfl ?_)
      refine rg_nil ?_; refine ⟨r &&& (r - 1), ?_, ?_, ?_⟩
      · exact min_next hr hne (supP_v.symm.trans (decide_eq_false (by assumption)))
      · exact min_lt hne
      · exact ⟨⟨⟨_, rfl, (cor_i (and_pred hne))⟩, ⟨_, rfl, CoR.refl _⟩, ⟨_, rfl, CoR.refl _⟩, ⟨_, rfl, CoR.refl _⟩, trivial⟩, trivial⟩
  · skip
    have h0 := r0
    have h0 := of_decide_eq_true (not_f h0)
    try simp only [Int.toNat_natCast] at h0
    have hz : r = 0 := asI_inj.1 h0
    refine hw_exit ?_; show HW _ _ _ _ _; refine hw_seq ?_; refine hw_region (E := TrydE) Trydok ?_; refine rq rfl rfl rfl rfl rfl ?_; refine rg_nil ?_; show HW _ _ _ _ _; refine hw_ret ?_; refine ⟨.inr rfl, ?_⟩
    exact ⟨_, _, _, _, rfl, (by (repeat' apply And.intro) <;> first | trivial | exact Nat.le_of_ble_eq_true rfl | rfl), rfl, (by (repeat' apply And.intro) <;> first | trivial | exact Nat.le_of_ble_eq_true rfl | rfl), ⟨ccb (min_end hr hz).symm, trivial⟩⟩
theorem good85 : goodFn Tryd.prog 85 := ⟨Tryd.f85, Tryd.func85, by kernel_rfl, by kernel_rfl⟩
theorem cTPrime (l : List Fd) (p : AS) : HPure Tryd.prog 85 [pP (fdl l), pA p] (prOf [pA (primeS l p)]) := by
  refine hpure_of (nt := 33) Trydok Tryd.func85 rfl rfl (Nat.le_of_ble_eq_true rfl) ?_; refine hw_seq ?_; refine hw_region (E := TrydE) Trydok ?_; refine rq rfl rfl rfl rfl rfl ?_; refine rg_nil ?_; show HW _ _ _ _ _
  refine hw_seq ?_; refine hw_region (E := TrydE) Trydok ?_; refine rq rfl rfl rfl rfl rfl ?_; refine rg_nil ?_; show HW _ _ _ _ _; (iterate 2 refine hw_seq ?_)
  have htl := tsubs_len p
  refine hw_region (E := TrydE) Trydok ?_; refine rq rfl rfl rfl rfl rfl ?_; refine rc rfl rfl rfl rfl rfl rfl good86 (cTSubs p) (CoL.refl _) rfl rfl ?_; (iterate 2 refine rq rfl rfl rfl rfl rfl ?_); refine rg_nil ?_
  show HW _ _ _ _ _; refine hw_block ?_
  refine hw_loopK (ι := Nat) ⟨[(0, some _), (1, some _), (9, some _), (10, some _)], []⟩ ⟨⟨⟨_, rfl, CoR.refl _⟩, ⟨_, rfl, CoR.refl _⟩, ⟨_, rfl, CoR.refl _⟩, ⟨_, rfl, CoR.refl _⟩, trivial⟩, trivial⟩ (fun i => ⟨[(5, some (vA (primeT l p i))), (11, some (vI i))], []⟩) (fun i => i ≤ (tsubs p).length) (fun i => (tsubs p).length - i) (0) (Nat.zero_le _) ⟨⟨⟨_, rfl, (cor_i rfl)⟩, ⟨_, rfl, (by first | exact CoR.refl _ | exact coi (by omega) | exact cob (by simp_all))⟩, trivial⟩, trivial⟩ ?_
  rintro i hi
  refine hw_seq ?_; refine hw_region (E := TrydE) Trydok ?_; refine rq rfl rfl rfl rfl rfl ?_; refine rg_nil ?_; show HW _ _ _ _ _; refine hw_seq ?_; refine hw_cond _ rfl (fun r0 => ?_) (fun r0 => ?_)
  · skip
    have h0 := r0
    have h0 := of_decide_eq_true h0
    try simp only [Int.toNat_natCast] at h0
    refine hw_skip ?_; show HW _ _ _ _ _; refine hw_seq ?_; refine hw_block ?_; refine hw_seq ?_; refine hw_region (E := TrydE) Trydok ?_; (iterate 3 refine rq rfl rfl rfl rfl rfl ?_); refine rg_nil ?_; show HW _ _ _ _ _
    refine hw_seq ?_; refine hw_region (E := TrydE) Trydok ?_; (iterate 2 refine rq rfl rfl rfl rfl rfl ?_); refine rc rfl rfl rfl rfl rfl rfl good46 (cClose l ((tsubs p).getD i default)) (CoL.refl _) rfl rfl ?_
    (iterate 5 refine rq rfl rfl rfl rfl rfl ?_); refine rsplit rfl rfl (fun r1 => ?_) (fun r1 => ?_)
    · skip
      have h1 := r1
      have h1 := of_decide_eq_true h1
      try simp only [Int.toNat_natCast] at h1
      (iterate 3 refine rq rfl rfl rfl rfl (gtt r1) ?_); refine rc rfl rfl rfl rfl rfl rfl good113 (cTMin l p ((tsubs p).getD i default)) (CoL.refl _) rfl (gtt r1) ?_; refine rq rfl rfl rfl rfl rfl ?_; refine rg_nil ?_
      show HW _ _ _ _ _; refine hw_cond _ rfl (fun r2 => ?_) (fun r2 => ?_)
      · skip
        have h2 := r2
        have h2 := bif_t r1 h2
        refine hw_region (E := TrydE) Trydok ?_; (iterate 4 refine rq rfl rfl rfl rfl rfl ?_); refine rg_nil ?_; show HW _ _ _ _ _; refine hw_region (E := TrydE) Trydok ?_; (iterate 2 refine rq rfl rfl rfl rfl rfl ?_)
        refine rg_nil ?_; refine ⟨i + 1, ?_, ?_, ?_⟩
        · show i + 1 ≤ _; omega
        · first | omega | (dsimp only; omega)
        · exact ⟨⟨⟨_, rfl, (by first | exact cor_i (by rw [bOr, primeT_t (by omega) (pkey_t (supP_v.symm.trans (decide_eq_true (by assumption))) (by assumption))]; rfl) | exact cor_i (by rw [primeT_f (by omega) (pkey_f2 (by assumption))]) | exact cor_i (by rw [primeT_f (by omega) (pkey_f1 (supP_v.symm.trans (decide_eq_false (by assumption))))]))⟩, ⟨_, rfl, (by first | exact CoR.refl _ | exact coi (by omega) | exact cob (by simp_all))⟩, ⟨_, rfl, CoR.refl _⟩, ⟨_, rfl, CoR.refl _⟩, ⟨_, rfl, CoR.refl _⟩, ⟨_, rfl, CoR.refl _⟩, trivial⟩, trivial⟩
      · skip
        have h2 := r2
        have h2 := bif_t r1 h2
        refine hw_skip ?_; show HW _ _ _ _ _; refine hw_region (E := TrydE) Trydok ?_; (iterate 2 refine rq rfl rfl rfl rfl rfl ?_); refine rg_nil ?_; refine ⟨i + 1, ?_, ?_, ?_⟩
        · show i + 1 ≤ _; omega
        · first | omega | (dsimp only; omega)
        · exact ⟨⟨⟨_, rfl, (by first | exact cor_i (by rw [bOr, primeT_t (by omega) (pkey_t (supP_v.symm.trans (decide_eq_true (by assumption))) (by assumption))]; rfl) | exact cor_i (by rw [primeT_f (by omega) (pkey_f2 (by assumption))]) | exact cor_i (by rw [primeT_f (by omega) (pkey_f1 (supP_v.symm.trans (decide_eq_false (by assumption))))]))⟩, ⟨_, rfl, (by first | exact CoR.refl _ | exact coi (by omega) | exact cob (by simp_all))⟩, ⟨_, rfl, CoR.refl _⟩, ⟨_, rfl, CoR.refl _⟩, ⟨_, rfl, CoR.refl _⟩, ⟨_, rfl, CoR.refl _⟩, trivial⟩, trivial⟩
    · skip
      have h1 := r1
      have h1 := of_decide_eq_false h1
      try simp only [Int.toNat_natCast] at h1
      (iterate 4 refine rk rfl rfl rfl (gft r1) ?_); refine rq rfl rfl rfl rfl rfl ?_ (hp := r1); refine rg_nil ?_; show HW _ _ _ _ _; refine hw_cond _ rfl (fun e => by cases e) (fun _ => ?_); refine hw_skip ?_; show HW _ _ _ _ _
      refine hw_region (E := TrydE) Trydok ?_; (iterate 2 refine rq rfl rfl rfl rfl rfl ?_); refine rg_nil ?_; refine ⟨i + 1, ?_, ?_, ?_⟩
      · show i + 1 ≤ _; omega
      · first | omega | (dsimp only; omega)
      · exact ⟨⟨⟨_, rfl, (by first | exact cor_i (by rw [bOr, primeT_t (by omega) (pkey_t (supP_v.symm.trans (decide_eq_true (by assumption))) (by assumption))]; rfl) | exact cor_i (by rw [primeT_f (by omega) (pkey_f2 (by assumption))]) | exact cor_i (by rw [primeT_f (by omega) (pkey_f1 (supP_v.symm.trans (decide_eq_false (by assumption))))]))⟩, ⟨_, rfl, (by first | exact CoR.refl _ | exact coi (by omega) | exact cob (by simp_all))⟩, ⟨_, rfl, CoR.refl _⟩, ⟨_, rfl, CoR.refl _⟩, ⟨_, rfl, CoR.refl _⟩, ⟨_, rfl, CoR.refl _⟩, trivial⟩, trivial⟩
  · skip
    have h0 := r0
    have h0 := of_decide_eq_false h0
    try simp only [Int.toNat_natCast] at h0
    obtain rfl : i = (tsubs p).length := by omega
    refine hw_exit ?_; show HW _ _ _ _ _; refine hw_seq ?_; refine hw_region (E := TrydE) Trydok ?_; (iterate 2 refine rq rfl rfl rfl rfl rfl ?_); refine rg_nil ?_; show HW _ _ _ _ _; refine hw_ret ?_; refine ⟨.inr rfl, ?_⟩
    exact ⟨_, _, _, _, rfl, (by (repeat' apply And.intro) <;> first | trivial | exact Nat.le_of_ble_eq_true rfl | rfl), rfl, (by (repeat' apply And.intro) <;> first | trivial | exact Nat.le_of_ble_eq_true rfl | rfl), ⟨cci (by rw [primeT_end]), trivial⟩⟩
end Go.Hx
end
section
namespace Go.Hx
def keyA (l : List Fd) (p x : AS) (a : Nat) : Bool := (List.range a).all fun b => !(x.getLsbD b && supP l p (noA x b))
theorem keyA_succ (l : List Fd) (p x : AS) (a : Nat) : keyA l p x (a + 1) = (keyA l p x a && !(x.getLsbD a && supP l p (noA x a))) := by
  unfold keyA
  rw [List.range_succ, List.all_append]
  simp only [List.all_cons, List.all_nil, Bool.and_true]
theorem keyA_t {l : List Fd} {p x : AS} {a : Nat} (ha : a < 32) (h : hasI x a = true) (h2 : supP l p (noA x a) = true) : keyA l p x (a + 1) = false := by
  rw [hasI_nat ha] at h
  rw [keyA_succ, h, h2]; simp
theorem keyA_f1 {l : List Fd} {p x : AS} {a : Nat} (ha : a < 32) (h : hasI x a = false) : keyA l p x (a + 1) = keyA l p x a := by
  rw [hasI_nat ha] at h
  rw [keyA_succ, h]; simp
theorem keyA_f2 {l : List Fd} {p x : AS} {a : Nat} (h : supP l p (noA x a) = false) : keyA l p x (a + 1) = keyA l p x a := by
  rw [keyA_succ, h]; simp
def numR (i : Nat) : List AS := (List.range i).map (BitVec.ofNat 32)
theorem numR_succ (i : Nat) : numR (i + 1) = numR i ++ [BitVec.ofNat 32 i] := by unfold numR; rw [List.range_succ, List.map_append]; rfl
def prQ (l : List Fd) (p x : AS) : Bool := decide (sub x p) && pkey l p x
def primeR (l : List Fd) (p : AS) (i : Nat) : AS := orL ((numR i).filter (prQ l p))
theorem primeR_t {l : List Fd} {p : AS} {i : Nat} (h : sub (BitVec.ofNat 32 i) p) (h2 : supP l p (BitVec.ofNat 32 i) = true) (h3 : minL l p (BitVec.ofNat 32 i) = true) : primeR l p (i + 1) = primeR l p i ||| BitVec.ofNat 32 i := by
  have e : prQ l p (BitVec.ofNat 32 i) = true := by unfold prQ; rw [decide_eq_true h, pkey_t h2 h3]; rfl
  unfold primeR
  rw [numR_succ, List.filter_append]
  simp only [List.filter_cons, e, if_true, List.filter_nil]
  exact orL_app _ _
theorem primeR_f {l : List Fd} {p : AS} {i : Nat} (e : prQ l p (BitVec.ofNat 32 i) = false) : primeR l p (i + 1) = primeR l p i := by
  unfold primeR
  rw [numR_succ, List.filter_append]
  simp only [List.filter_cons, e, Bool.false_eq_true, if_false, List.filter_nil, List.append_nil]
theorem prQ_1 {l : List Fd} {p x : AS} (h : ¬ sub x p) : prQ l p x = false := by unfold prQ; rw [decide_eq_false h]; rfl
theorem prQ_2 {l : List Fd} {p x : AS} (h : supP l p x = false) : prQ l p x = false := by unfold prQ; rw [pkey_f1 h]; simp
theorem prQ_3 {l : List Fd} {p x : AS} (h : minL l p x = false) : prQ l p x = false := by unfold prQ; rw [pkey_f2 h]; simp
theorem mem_numR {i : Nat} {x : AS} (hi : i ≤ 4294967296) : x ∈ numR i ↔ x.toNat < i := by
  unfold numR
  rw [List.mem_map]
  constructor
  · rintro ⟨k, hk, rfl⟩
    rw [List.mem_range] at hk
    rw [BitVec.toNat_ofNat, Nat.mod_eq_of_lt (by omega)]
    exact hk
  · intro h
    exact ⟨x.toNat, List.mem_range.2 h, by rw [BitVec.ofNat_toNat, BitVec.setWidth_eq]⟩
theorem primeR_end {l : List Fd} {p : AS} {i : Nat} (hp : i = p.toNat + 1) : primeR l p i = primeS l p := by
  have := p.isLt
  unfold primeR primeS
  refine orL_same fun z => ?_
  rw [List.mem_filter, List.mem_filter, mem_numR (by omega), mem_tsubs]
  unfold prQ
  rw [Bool.and_eq_true, decide_eq_true_iff]
  constructor
  · rintro ⟨_, h1, h2⟩; exact ⟨h1, h2⟩
  · rintro ⟨h1, h2⟩
    have := subLe h1
    exact ⟨by omega, h1, h2⟩
section
variable {l : List Fd} {p : AS} {i : Nat}
theorem num_sub (hi : i < 4294967296) : bitV .andNot .u32 (i : Int) (asI p) = 0 ↔ sub (BitVec.ofNat 32 i) p := by
  rw [set_u64 hi]
  exact sub_iff_not
theorem pr_1 (hi : i < 4294967296) (h : ¬ bitV .andNot .u32 (i : Int) (asI p) = 0) : asI (primeR l p i) = asI (primeR l p (i + 1)) := congrArg asI (primeR_f (prQ_1 fun e => h ((num_sub hi).2 e))).symm
theorem pr_2 (h : decide (sub p (clo l (BitVec.ofNat 32 i))) = false) : asI (primeR l p i) = asI (primeR l p (i + 1)) := congrArg asI (primeR_f (prQ_2 h)).symm
theorem pr_3 (h : keyA l p (BitVec.ofNat 32 i) 32 = false) : asI (primeR l p i) = asI (primeR l p (i + 1)) := congrArg asI (primeR_f (prQ_3 h)).symm
theorem pr_t (hi : i < 4294967296) (h1 : bitV .andNot .u32 (i : Int) (asI p) = 0) (h2 : decide (sub p (clo l (BitVec.ofNat 32 i))) = true) (h3 : keyA l p (BitVec.ofNat 32 i) 32 = true) : bitV .or .u32 (asI (primeR l p i)) (i : Int) = asI (primeR l p (i + 1)) := by
  rw [primeR_t ((num_sub hi).1 h1) h2 h3, set_u64 hi, bOr]
end
def badL (l : List Fd) (p x : AS) : Bool := !supP l p x && decide (((clo l x &&& p) &&& ~~~x) &&& ~~~primeS l p ≠ 0)
def localS (l : List Fd) (p : AS) : Bool := !(tsubs p).any (badL l p)
theorem local_t {l : List Fd} {p : AS} (h : ∀ x, sub x p → badL l p x = false) : localS l p = true := by
  unfold localS
  have : (tsubs p).any (badL l p) = false := by
    rw [List.any_eq_false]
    intro x hx
    rw [h x (mem_tsubs.1 hx)]
    decide
  rw [this]; rfl
theorem local_f {l : List Fd} {p x : AS} (hx : sub x p) (h : badL l p x = true) : localS l p = false := by
  unfold localS
  have : (tsubs p).any (badL l p) = true := by
    rw [List.any_eq_true]
    exact ⟨x, mem_tsubs.2 hx, h⟩
  rw [this]; rfl
theorem bad_v {l : List Fd} {p x : AS} : decide (bitV .andNot .u32 (bitV .andNot .u32 (bitV .and .u32 (asI (clo l x)) (asI p)) (asI x)) (asI (primeS l p)) = 0) = decide (((clo l x &&& p) &&& ~~~x) &&& ~~~primeS l p = 0) := by
  rw [bAnd, bNot, bNot, show (0 : Int) = asI 0 from rfl, asI_eq]
theorem bad_f1 {l : List Fd} {p x : AS} (h : supP l p x = true) : badL l p x = false := by unfold badL; rw [h]; rfl
theorem bad_f2 {l : List Fd} {p x : AS} (h : bitV .andNot .u32 (bitV .andNot .u32 (bitV .and .u32 (asI (clo l x)) (asI p)) (asI x)) (asI (primeS l p)) = 0) : badL l p x = false := by
  have e := bad_v.symm.trans (decide_eq_true h)
  unfold badL
  rw [decide_eq_false (fun hn => hn (of_decide_eq_true e))]
  simp
theorem bad_t {l : List Fd} {p x : AS} (h0 : supP l p x = false) (h : ¬ bitV .andNot .u32 (bitV .andNot .u32 (bitV .and .u32 (asI (clo l x)) (asI p)) (asI x)) (asI (primeS l p)) = 0) : badL l p x = true := by
  have e := bad_v.symm.trans (decide_eq_false h)
  unfold badL
  rw [h0, decide_eq_true (of_decide_eq_false e)]
  rfl
theorem sup_t {l : List Fd} {p x : AS} (h : bitV .and .u32 (asI (clo l x)) (asI p) = asI p) : supP l p x = true := supP_v.symm.trans (decide_eq_true h)
theorem sup_f {l : List Fd} {p x : AS} (h : ¬ bitV .and .u32 (asI (clo l x)) (asI p) = asI p) : supP l p x = false := supP_v.symm.trans (decide_eq_false h)
theorem badN_1 {l : List Fd} {p : AS} {i : Nat} (hi : i < 4294967296) (h : ¬ bitV .andNot .u32 (i : Int) (asI p) = 0) : (decide (sub (BitVec.ofNat 32 i) p) && badL l p (BitVec.ofNat 32 i)) = false := by
  rw [decide_eq_false (fun e => h ((num_sub hi).2 e))]; rfl
theorem badN_2 {l : List Fd} {p : AS} {x : AS} {b : Bool} (h : badL l p x = false) : (b && badL l p x) = false := by rw [h]; simp
theorem local_n {l : List Fd} {p : AS} {i : Nat} (hi : i = p.toNat + 1) (h : ∀ j, j < i → (decide (sub (BitVec.ofNat 32 j) p) && badL l p (BitVec.ofNat 32 j)) = false) : localS l p = true := local_t fun x hx => by
  have := h x.toNat (by have := subLe hx; omega)
  rw [BitVec.ofNat_toNat, BitVec.setWidth_eq, decide_eq_true hx, Bool.true_and] at this
  exact this
theorem local_ts {l : List Fd} {p : AS} (h : ∀ j, j < (tsubs p).length → badL l p ((tsubs p).getD j default) = false) : localS l p = true := local_t fun x hx => by
  obtain ⟨j, hj, rfl⟩ := List.getElem_of_mem (mem_tsubs.2 hx)
  have := h j hj
  rwa [List.getD_eq_getElem?_getD, List.getElem?_eq_getElem hj, Option.getD_some] at this
def locE (n : Int) (l : List Fd) (p : AS) : Int := if vErr n l = 0 then (if sub p (fullI n) then 0 else 1) else vErr n l
def locB (n : Int) (l : List Fd) (p : AS) : Bool := decide (locE n l p = 0) && localS l p
theorem loc_1 {n : Int} {l : List Fd} {p : AS} (h : ¬ vErr n l = 0) : locE n l p = vErr n l ∧ locB n l p = false := by
  have e : locE n l p = vErr n l := if_neg h
  exact ⟨e, by unfold locB; rw [e, decide_eq_false h]; rfl⟩
theorem loc_2 {n : Int} {l : List Fd} {p : AS} (h : vErr n l = 0) (h2 : ¬ sub p (fullI n)) : locE n l p = 1 ∧ locB n l p = false := by
  have e : locE n l p = 1 := by unfold locE; rw [if_pos h, if_neg h2]
  exact ⟨e, by unfold locB; rw [e]; rfl⟩
theorem loc_3 {n : Int} {l : List Fd} {p : AS} (h : vErr n l = 0) (h2 : sub p (fullI n)) : locE n l p = 0 ∧ locB n l p = localS l p := by
  have e : locE n l p = 0 := by unfold locE; rw [if_pos h, if_pos h2]
  exact ⟨e, by unfold locB; rw [e]; rfl⟩
end Go.Hx
end
