/- A part of the proof: lemmas for the theorem of this claim, merged by a program of ours out of Cs24, V23, Cs26, V25, Cs27, V26, Cs28. -/
import Derived.Test.YtgeliioenkmfhaaDoorT25
set_option linter.all false
section
namespace Go.Hx
section
variable {n : Int} {l : List Fd}
theorem inU_all (h : vErr n l = 0) : ∀ f ∈ l, sub f.lhs (fullI n) ∧ sub f.rhs (fullI n) := fun f hf => by
  obtain ⟨h0, h1, _, h3⟩ := vErr_ok h
  exact (inU_iff h0 h1).1 (List.all_eq_true.1 h3 f hf)
theorem full_closed (h : vErr n l = 0) : closedB l (fullI n) := fun f hf _ => (inU_all h f hf).2
theorem clo_full (h : vErr n l = 0) {x : AS} (hx : sub x (fullI n)) : sub (clo l x) (fullI n) := clo_least (full_closed h) hx
end
theorem mapT {α β : Type} [Inhabited α] {f : α → β} {l : List α} {i : Nat} (h : i < l.length) : (l.take (i + 1)).map f = (l.take i).map f ++ [f (l.getD i default)] := by
  rw [take_snoc h, List.map_append]
  rfl
structure Dps where
  n : BitVec 8
  l : List Dp
deriving Inhabited
def Dps.num (d : Dps) : Int := ((d.n.toNat % 7 : Nat) : Int)
def Dps.fds (d : Dps) : List Fd := d.l.map (Dp.fd d.num)
def Dps.c (d : Dps) : Nat → PV
  | 0 => .raw (.int .u8 (d.n.toNat : Int))
  | 1 => dpl d.l
  | _ => .any
abbrev Dps.pc (d : Dps) : PC := .agg [d.c 0, d.c 1]
theorem num_le (d : Dps) : 0 ≤ d.num ∧ d.num ≤ 6 := by unfold Dps.num; omega
theorem dps_ok {d : Dps} (h : d.l.length ≤ 6) : vErr d.num d.fds = 0 := by
  obtain ⟨h0, h1⟩ := num_le d
  unfold vErr
  rw [if_neg (by omega), if_neg (by unfold Dps.fds; rw [List.length_map]; omega), if_pos]
  rw [List.all_eq_true]
  intro f hf
  unfold Dps.fds at hf
  obtain ⟨x, hx, rfl⟩ := List.mem_map.1 hf
  exact (inU_iff h0 (by omega)).2 ⟨sub_and_l, sub_and_l⟩
end Go.Hx
end
section
namespace Go.Hx
open Go.Proofs
set_option maxRecDepth 100000
theorem good56 : goodFn Tryd.prog 56 := ⟨Tryd.f56, Tryd.func56, by kernel_rfl, by kernel_rfl⟩
theorem cList (n : Int) (l : List Dp) (hl : l.length ≤ 16777216) : HPure Tryd.prog 56 [pI n, pP (dpl l)] (prOf [pP (fdl (l.map (Dp.fd n)))]) := by
  refine hpure_of (nt := 37) Trydok Tryd.func56 rfl rfl (Nat.le_of_ble_eq_true rfl) ?_; refine hw_seq ?_; refine hw_region (E := TrydE) Trydok ?_; refine rq rfl rfl rfl rfl rfl ?_; refine rg_nil ?_; show HW _ _ _ _ _
  refine hw_seq ?_; refine hw_region (E := TrydE) Trydok ?_; refine rq rfl rfl rfl rfl rfl ?_; refine rc rfl rfl rfl rfl rfl rfl good28 (cRFull n) (CoL.refl _) rfl rfl ?_; refine rq rfl rfl rfl rfl rfl ?_; refine rg_nil ?_
  show HW _ _ _ _ _; refine hw_seq ?_; refine hw_region (E := TrydE) Trydok ?_; refine rq rfl rfl rfl rfl rfl ?_; refine rg_nil ?_; show HW _ _ _ _ _; (iterate 2 refine hw_seq ?_); refine hw_region (E := TrydE) Trydok ?_
  refine rq rfl rfl rfl rfl rfl ?_; refine rg_nil ?_; show HW _ _ _ _ _; refine hw_block ?_
  refine hw_adopt 6 900 true 2 32 (lf Fd.c []) (by decide) rfl (CoP.sl rfl (.inr rfl) (fun h => h) (fun i j hi _ => absurd hi (Nat.not_lt_zero i))) (.inr rfl) rfl ?_
  refine hw_loopK (ι := Nat) ⟨[(1, some _), (5, some _)], []⟩ ⟨⟨⟨_, rfl, CoR.refl _⟩, ⟨_, rfl, CoR.refl _⟩, trivial⟩, trivial⟩ (fun i => ⟨[(6, some (.v (.one (.ref 900 ((l.take i).map (Dp.fd n)).length)))), (7, some (vI i))], [(900, some (.arr true 2 32 ((l.take i).map (Dp.fd n)).length (lf Fd.c ((l.take i).map (Dp.fd n)))))]⟩) (fun i => i ≤ l.length) (fun i => l.length - i) (0) (Nat.zero_le _) ⟨⟨⟨_, rfl, (by first | exact CoR.refl _ | exact coi (by omega) | exact cob (by simp_all))⟩, ⟨_, rfl, (by first | exact CoR.refl _ | exact coi (by omega) | exact cob (by simp_all))⟩, trivial⟩, ⟨⟨_, rfl, CoO.refl _⟩, trivial⟩⟩ ?_
  rintro i hi
  have hlen : ((l.take i).map (Dp.fd n)).length ≤ i := by rw [List.length_map, List.length_take]; omega
  (iterate 2 refine hw_seq ?_); refine hw_region (E := TrydE) Trydok ?_; (iterate 4 refine rq rfl rfl rfl rfl rfl ?_); refine rg_nil ?_; show HW _ _ _ _ _; refine hw_cond _ rfl (fun r0 => ?_) (fun r0 => ?_)
  · skip
    have h0 := r0
    have h0 := of_decide_eq_true h0
    try simp only [Int.toNat_natCast] at h0
    refine hw_skip ?_; show HW _ _ _ _ _; refine hw_seq ?_; refine hw_block ?_; refine hw_draw (E := TrydE) Trydok Trydmixed [0, 1, 2, 3, 4, 5, 6, 7, 8, 9, 10, 11, 12, 13, 14, 15, 16, 17, 18, 19, 20] ?_
    (iterate 18 refine rq rfl rfl rfl rfl rfl ?_); refine rm 0 rfl rfl rfl rfl rfl rfl ?_; refine ra 1 true rfl rfl rfl rfl rfl rfl ?_; refine rq rfl rfl rfl rfl rfl ?_; refine rg_nil ?_; refine ⟨by kernel_rfl, ?_⟩
    show HW _ _ _ _ _; refine hw_region (E := TrydE) Trydok ?_; (iterate 3 refine rq rfl rfl rfl rfl rfl ?_); refine rg_nil ?_; refine ⟨i + 1, ?_, ?_, ?_⟩
    · show i + 1 ≤ _; omega
    · first | omega | (dsimp only; omega)
    · exact ⟨⟨⟨_, rfl, (ref_app (mapT (by omega)))⟩, ⟨_, rfl, (by first | exact CoR.refl _ | exact coi (by omega) | exact cob (by simp_all))⟩, ⟨_, rfl, CoR.refl _⟩, ⟨_, rfl, CoR.refl _⟩, trivial⟩, ⟨⟨_, rfl, (arr_app2 (mapT (by omega)) (CoP.of_eq (congrArg (fun z => PV.raw (.int .u32 z)) (u8_and _ _))) (CoP.of_eq (congrArg (fun z => PV.raw (.int .u32 z)) (u8_and _ _))))⟩, trivial⟩⟩
  · skip
    have h0 := r0
    have h0 := of_decide_eq_false h0
    try simp only [Int.toNat_natCast] at h0
    obtain rfl : i = l.length := by omega
    refine hw_exit ?_; show HW _ _ _ _ _; refine hw_seq ?_; refine hw_region (E := TrydE) Trydok ?_; (iterate 2 refine rq rfl rfl rfl rfl rfl ?_); refine rg_nil ?_; refine hw_freeze 4 rfl rfl rfl ?_; show HW _ _ _ _ _
    refine hw_ret ?_; refine ⟨.inr rfl, ?_⟩
    exact ⟨_, _, _, _, rfl, (by (repeat' apply And.intro) <;> first | trivial | exact Nat.le_of_ble_eq_true rfl | rfl), rfl, (by (repeat' apply And.intro) <;> first | trivial | exact Nat.le_of_ble_eq_true rfl | rfl), ⟨CoC.one (CoP.of_eq (by rw [List.take_length]; rfl)), trivial⟩⟩
theorem good23 : goodFn Tryd.prog 23 := ⟨Tryd.f23, Tryd.func23, by kernel_rfl, by kernel_rfl⟩
theorem cOf (d : Dps) (hl : d.l.length ≤ 16777216) : HPure Tryd.prog 23 [d.pc] (prOf [pI d.num, pP (fdl d.fds), pB (decide (d.l.length ≤ 6))]) := by
  refine hpure_of (nt := 19) Trydok Tryd.func23 rfl rfl (Nat.le_of_ble_eq_true rfl) ?_; refine hw_seq ?_; refine hw_region (E := TrydE) Trydok ?_; refine rm 0 rfl rfl rfl rfl rfl rfl ?_; (iterate 3 refine rq rfl rfl rfl rfl rfl ?_)
  refine rg_nil ?_; show HW _ _ _ _ _; refine hw_seq ?_; refine hw_region (E := TrydE) Trydok ?_; (iterate 5 refine rq rfl rfl rfl rfl rfl ?_); refine rg_nil ?_; show HW _ _ _ _ _; refine hw_seq ?_
  refine hw_draw (E := TrydE) Trydok Trydmixed [0, 1, 2, 3, 4, 5, 6, 7, 8, 9, 10, 11] ?_; (iterate 4 refine rq rfl rfl rfl rfl rfl ?_); refine rc rfl rfl rfl rfl rfl rfl good56 (cList d.num d.l hl) (CoL.refl _) rfl rfl ?_
  (iterate 7 refine rq rfl rfl rfl rfl rfl ?_); refine rg_nil ?_; refine ⟨by kernel_rfl, ?_⟩; show HW _ _ _ _ _; refine hw_ret ?_; refine ⟨.inr rfl, ?_⟩
  exact ⟨_, _, _, _, rfl, (by (repeat' apply And.intro) <;> first | trivial | exact Nat.le_of_ble_eq_true rfl | rfl), rfl, (by (repeat' apply And.intro) <;> first | trivial | exact Nat.le_of_ble_eq_true rfl | rfl), ⟨cci (show (d.n.toNat : Int) % 7 = d.num by unfold Dps.num; omega), CoC.refl _, ccb (decide_eq_decide.2 (by omega)), trivial⟩⟩
end Go.Hx
end
section
namespace Go.Hx
def noA (s : AS) (a : Nat) : AS := s &&& ~~~((1 : AS) <<< a)
theorem noA_v (s : AS) (a : Nat) {b : Int} (h : b.toNat = a) : bitV .andNot .u32 (asI s) (IntKind.wrap .u32 (1 * 2 ^ (min b.toNat 32))) = asI (noA s a) := by
  rw [h]
  exact and_shl s a
theorem noA_id {s : AS} {a : Nat} (h : s.getLsbD a = false) : noA s a = s := by
  unfold noA
  apply BitVec.eq_of_getLsbD_eq
  intro i hi
  rw [BitVec.getLsbD_and, BitVec.getLsbD_not, decide_eq_true hi, Bool.true_and]
  by_cases hia : i = a
  · subst hia; rw [h]; rfl
  · have h1 : ((1 : AS) <<< a).getLsbD i = decide (i = a) := bit_one a i hi
    rw [h1, decide_eq_false hia]
    simp
def rkStep (n : Int) (l : List Fd) (s : AS) (a : Nat) : AS := if skey n l (noA s a) = true then noA s a else s
def lessK (n : Int) (l : List Fd) (s : AS) (k : Nat) : AS := (List.range k).foldl (fun s j => rkStep n l s (n.toNat - 1 - j)) s
theorem lessK_succ (n : Int) (l : List Fd) (s : AS) (k : Nat) : lessK n l s (k + 1) = rkStep n l (lessK n l s k) (n.toNat - 1 - k) := by
  unfold lessK
  rw [List.range_succ, List.foldl_append]
  rfl
theorem lessK_t {n : Int} {l : List Fd} {s : AS} {k : Nat} (h : skey n l (noA (lessK n l s k) (n.toNat - 1 - k)) = true) : lessK n l s (k + 1) = noA (lessK n l s k) (n.toNat - 1 - k) := by
  rw [lessK_succ]; exact if_pos h
theorem lessK_f {n : Int} {l : List Fd} {s : AS} {k : Nat} (h : skey n l (noA (lessK n l s k) (n.toNat - 1 - k)) = false) : lessK n l s (k + 1) = lessK n l s k := by
  rw [lessK_succ]; exact if_neg (by rw [h]; decide)
theorem lessK_n {n : Int} {l : List Fd} {s : AS} {k : Nat} (h : (lessK n l s k).getLsbD (n.toNat - 1 - k) = false) : lessK n l s (k + 1) = lessK n l s k := by
  rw [lessK_succ]
  unfold rkStep
  rw [noA_id h]
  split <;> rfl
def rkE (n : Int) (l : List Fd) (s : AS) : Int := if vErr n l = 0 then (if skey n l s = true then 0 else 1) else vErr n l
def rkS (n : Int) (l : List Fd) (s : AS) : AS := if rkE n l s = 0 then lessK n l s n.toNat else 0
theorem rk_1 {n : Int} {l : List Fd} {s : AS} (h : ¬ vErr n l = 0) : rkS n l s = 0 ∧ rkE n l s = vErr n l := by
  have e : rkE n l s = vErr n l := if_neg h
  exact ⟨if_neg (by rw [e]; exact h), e⟩
theorem rk_2 {n : Int} {l : List Fd} {s : AS} (h : vErr n l = 0) (h2 : skey n l s = false) : rkS n l s = 0 ∧ rkE n l s = 1 := by
  have e : rkE n l s = 1 := by unfold rkE; rw [if_pos h, if_neg (by rw [h2]; decide)]
  exact ⟨if_neg (by rw [e]; decide), e⟩
theorem rk_3 {n : Int} {l : List Fd} {s : AS} (h : vErr n l = 0) (h2 : skey n l s = true) : rkS n l s = lessK n l s n.toNat ∧ rkE n l s = 0 := by
  have e : rkE n l s = 0 := by unfold rkE; rw [if_pos h, if_pos h2]
  exact ⟨if_pos e, e⟩
def isKey (n : Int) (l : List Fd) (s : AS) : Bool := skey n l s && (List.range n.toNat).all fun a => !(s.getLsbD a && skey n l (noA s a))
theorem isKey_f1 {n : Int} {l : List Fd} {s : AS} (h : skey n l s = false) : isKey n l s = false := by unfold isKey; rw [h]; rfl
theorem isKey_f2 {n : Int} {l : List Fd} {s : AS} {a : Nat} (ha : a < n.toNat) (h : s.getLsbD a = true) (h2 : skey n l (noA s a) = true) : isKey n l s = false := by
  unfold isKey
  rw [Bool.and_eq_false_iff]
  refine .inr ?_
  rw [List.all_eq_false]
  exact ⟨a, List.mem_range.2 ha, by rw [h, h2]; decide⟩
theorem isKey_t {n : Int} {l : List Fd} {s : AS} (h : skey n l s = true) (h2 : ∀ a, a < n.toNat → (s.getLsbD a && skey n l (noA s a)) = false) : isKey n l s = true := by
  unfold isKey
  rw [h, Bool.true_and, List.all_eq_true]
  intro a ha
  rw [h2 a (List.mem_range.1 ha)]
  rfl
def keysT (n : Int) (l : List Fd) (i : Nat) : List AS := ((List.range i).map (BitVec.ofNat 32)).filter (isKey n l)
theorem keysT_t {n : Int} {l : List Fd} {i : Nat} (h : isKey n l (BitVec.ofNat 32 i) = true) : keysT n l (i + 1) = keysT n l i ++ [BitVec.ofNat 32 i] := by
  unfold keysT
  rw [List.range_succ, List.map_append, List.filter_append]
  simp only [List.map_cons, List.map_nil, List.filter_cons, h, if_true, List.filter_nil]
theorem keysT_f {n : Int} {l : List Fd} {i : Nat} (h : isKey n l (BitVec.ofNat 32 i) = false) : keysT n l (i + 1) = keysT n l i := by
  unfold keysT
  rw [List.range_succ, List.map_append, List.filter_append]
  simp only [List.map_cons, List.map_nil, List.filter_cons, h, Bool.false_eq_true, if_false, List.filter_nil, List.append_nil]
theorem keysT_len (n : Int) (l : List Fd) (i : Nat) : (keysT n l i).length ≤ i := by
  unfold keysT
  exact Nat.le_trans (List.length_filter_le _ _) (by rw [List.length_map, List.length_range]; exact Nat.le_refl _)
def keysL (n : Int) (l : List Fd) : List AS := if vErr n l = 0 then ord (keysT n l (2 ^ n.toNat)) else []
theorem keysL_t {n : Int} {l : List Fd} (h : vErr n l = 0) : keysL n l = ord (keysT n l (2 ^ n.toNat)) := if_pos h
theorem keysL_f {n : Int} {l : List Fd} (h : ¬ vErr n l = 0) : keysL n l = [] := if_neg h
theorem full_n {n : Int} (h0 : 0 ≤ n) (h1 : n ≤ 16) : asI (fullI n) + 1 = (2 ^ n.toNat : Nat) ∧ 2 ^ n.toNat ≤ 65536 := by
  have h2 : 2 ^ n.toNat ≤ 2 ^ 16 := Nat.pow_le_pow_right (by omega) (by omega)
  have h3 : 0 < 2 ^ n.toNat := Nat.two_pow_pos _
  unfold fullI asI
  rw [fullS_toNat (Nat.min_le_right _ _), Nat.min_eq_left (by omega)]
  omega
end Go.Hx
end
section
namespace Go.Hx
open Go.Proofs
set_option maxRecDepth 100000
theorem good59 : goodFn Tryd.prog 59 := ⟨Tryd.f59, Tryd.func59, by kernel_rfl, by kernel_rfl⟩
theorem cReduce (n : Int) (l : List Fd) (s : AS) : HPure Tryd.prog 59 [pI n, pP (fdl l), pA s] (prOf [pA (rkS n l s), pI (rkE n l s)]) := by
  refine hpure_of (nt := 38) Trydok Tryd.func59 rfl rfl (Nat.le_of_ble_eq_true rfl) ?_; refine hw_seq ?_; refine hw_region (E := TrydE) Trydok ?_; (iterate 2 refine rq rfl rfl rfl rfl rfl ?_); refine rg_nil ?_; show HW _ _ _ _ _
  (iterate 2 refine hw_seq ?_); refine hw_region (E := TrydE) Trydok ?_; (iterate 2 refine rq rfl rfl rfl rfl rfl ?_); refine rc rfl rfl rfl rfl rfl rfl good65 (cValid n l) (CoL.refl _) rfl rfl ?_; refine rq rfl rfl rfl rfl rfl ?_
  refine rg_nil ?_; show HW _ _ _ _ _; refine hw_seq ?_; refine hw_region (E := TrydE) Trydok ?_; (iterate 2 refine rq rfl rfl rfl rfl rfl ?_); refine rg_nil ?_; show HW _ _ _ _ _; refine hw_cond _ rfl (fun r0 => ?_) (fun r0 => ?_)
  · skip
    have h0 := r0
    have h0 := of_decide_eq_false (not_t h0)
    try simp only [Int.toNat_natCast] at h0
    refine hw_seq ?_; refine hw_region (E := TrydE) Trydok ?_; (iterate 3 refine rq rfl rfl rfl rfl rfl ?_); refine rg_nil ?_; show HW _ _ _ _ _; refine hw_ret ?_; refine ⟨.inr rfl, ?_⟩
    have he := rk_1 (s := s) h0
    exact ⟨_, _, _, _, rfl, (by (repeat' apply And.intro) <;> first | trivial | exact Nat.le_of_ble_eq_true rfl | rfl), rfl, (by (repeat' apply And.intro) <;> first | trivial | exact Nat.le_of_ble_eq_true rfl | rfl), ⟨cci (congrArg asI he.1.symm), cci he.2.symm, trivial⟩⟩
  · skip
    have h0 := r0
    have h0 := of_decide_eq_true (not_f h0)
    try simp only [Int.toNat_natCast] at h0
    refine hw_skip ?_; show HW _ _ _ _ _; (iterate 2 refine hw_seq ?_); refine hw_region (E := TrydE) Trydok ?_; (iterate 3 refine rq rfl rfl rfl rfl rfl ?_)
    refine rc rfl rfl rfl rfl rfl rfl good58 (cSkey n l s) (CoL.refl _) rfl rfl ?_; refine rq rfl rfl rfl rfl rfl ?_; refine rg_nil ?_; show HW _ _ _ _ _; refine hw_cond _ rfl (fun r1 => ?_) (fun r1 => ?_)
    · skip
      have h1 := r1
      have h1 := not_t h1
      refine hw_seq ?_; refine hw_region (E := TrydE) Trydok ?_; (iterate 2 refine rq rfl rfl rfl rfl rfl ?_); refine rg_nil ?_; show HW _ _ _ _ _; refine hw_ret ?_; refine ⟨.inr rfl, ?_⟩
      have he := rk_2 h0 (by assumption)
      exact ⟨_, _, _, _, rfl, (by (repeat' apply And.intro) <;> first | trivial | exact Nat.le_of_ble_eq_true rfl | rfl), rfl, (by (repeat' apply And.intro) <;> first | trivial | exact Nat.le_of_ble_eq_true rfl | rfl), ⟨cci (congrArg asI he.1.symm), cci he.2.symm, trivial⟩⟩
    · skip
      have h1 := r1
      have h1 := not_f h1
      refine hw_skip ?_; show HW _ _ _ _ _; (iterate 2 refine hw_seq ?_)
      have hv := vErr_ok h0
      refine hw_region (E := TrydE) Trydok ?_; (iterate 3 refine rq rfl rfl rfl rfl rfl ?_); refine rg_nil ?_; show HW _ _ _ _ _; refine hw_block ?_
      refine hw_loopK (ι := Nat) ⟨[(0, some _), (1, some _)], []⟩ ⟨⟨⟨_, rfl, CoR.refl _⟩, ⟨_, rfl, CoR.refl _⟩, trivial⟩, trivial⟩ (fun k => ⟨[(2, some (vA (lessK n l s k))), (9, some (vI (n - 1 - (k : Int))))], []⟩) (fun k => k ≤ n.toNat) (fun k => n.toNat - k) (0) (Nat.zero_le _) ⟨⟨⟨_, rfl, (by first | exact CoR.refl _ | exact coi (by omega) | exact cob (by simp_all))⟩, ⟨_, rfl, (coi (by omega))⟩, trivial⟩, trivial⟩ ?_
      rintro k hk
      (iterate 2 refine hw_seq ?_); refine hw_region (E := TrydE) Trydok ?_; (iterate 2 refine rq rfl rfl rfl rfl rfl ?_); refine rg_nil ?_; show HW _ _ _ _ _; refine hw_cond _ rfl (fun r2 => ?_) (fun r2 => ?_)
      · skip
        have h2 := r2
        have h2 := of_decide_eq_true h2
        try simp only [Int.toNat_natCast] at h2
        refine hw_skip ?_; show HW _ _ _ _ _; refine hw_seq ?_; refine hw_block ?_; refine hw_seq ?_; refine hw_region (E := TrydE) Trydok ?_; (iterate 5 refine rq rfl rfl rfl rfl rfl ?_); refine rg_nil ?_; show HW _ _ _ _ _
        refine hw_seq ?_; refine hw_region (E := TrydE) Trydok ?_; (iterate 3 refine rq rfl rfl rfl rfl rfl ?_)
        refine rc rfl rfl rfl rfl rfl rfl good58 (cSkey n l (noA (lessK n l s k) (n.toNat - 1 - k))) (⟨CoC.refl _, CoC.refl _, cci (noA_v _ _ (by omega)), trivial⟩) rfl rfl ?_; refine rg_nil ?_; show HW _ _ _ _ _
        refine hw_cond _ rfl (fun r3 => ?_) (fun r3 => ?_)
        · skip
          have h3 := r3
          refine hw_region (E := TrydE) Trydok ?_; (iterate 2 refine rq rfl rfl rfl rfl rfl ?_); refine rg_nil ?_; show HW _ _ _ _ _; refine hw_region (E := TrydE) Trydok ?_; (iterate 3 refine rq rfl rfl rfl rfl rfl ?_)
          refine rg_nil ?_
          first | (refine ⟨k + 1, ?_, ?_, ?_⟩
                   · show k + 1 ≤ _; omega
                   · first | omega | (dsimp only; omega)
                   · exact ⟨⟨⟨_, rfl, (cor_i ((noA_v _ (n.toNat - 1 - k) (by omega)).trans (congrArg asI (lessK_t (by assumption)).symm)))⟩, ⟨_, rfl, (coi (by omega))⟩, ⟨_, rfl, CoR.refl _⟩, ⟨_, rfl, CoR.refl _⟩, trivial⟩, trivial⟩)
                | (refine ⟨k + 1, ?_, ?_, ?_⟩
                   · show k + 1 ≤ _; omega
                   · first | omega | (dsimp only; omega)
                   · exact ⟨⟨⟨_, rfl, (cor_i (by rw [lessK_f (by assumption)]))⟩, ⟨_, rfl, (coi (by omega))⟩, ⟨_, rfl, CoR.refl _⟩, ⟨_, rfl, CoR.refl _⟩, trivial⟩, trivial⟩)
        · skip
          have h3 := r3
          refine hw_skip ?_; show HW _ _ _ _ _; refine hw_region (E := TrydE) Trydok ?_; (iterate 3 refine rq rfl rfl rfl rfl rfl ?_); refine rg_nil ?_
          first | (refine ⟨k + 1, ?_, ?_, ?_⟩
                   · show k + 1 ≤ _; omega
                   · first | omega | (dsimp only; omega)
                   · exact ⟨⟨⟨_, rfl, (cor_i ((noA_v _ (n.toNat - 1 - k) (by omega)).trans (congrArg asI (lessK_t (by assumption)).symm)))⟩, ⟨_, rfl, (coi (by omega))⟩, ⟨_, rfl, CoR.refl _⟩, ⟨_, rfl, CoR.refl _⟩, trivial⟩, trivial⟩)
                | (refine ⟨k + 1, ?_, ?_, ?_⟩
                   · show k + 1 ≤ _; omega
                   · first | omega | (dsimp only; omega)
                   · exact ⟨⟨⟨_, rfl, (cor_i (by rw [lessK_f (by assumption)]))⟩, ⟨_, rfl, (coi (by omega))⟩, ⟨_, rfl, CoR.refl _⟩, ⟨_, rfl, CoR.refl _⟩, trivial⟩, trivial⟩)
      · skip
        have h2 := r2
        have h2 := of_decide_eq_false h2
        try simp only [Int.toNat_natCast] at h2
        refine hw_exit ?_; show HW _ _ _ _ _; refine hw_seq ?_; refine hw_region (E := TrydE) Trydok ?_; (iterate 3 refine rq rfl rfl rfl rfl rfl ?_); refine rg_nil ?_; show HW _ _ _ _ _; refine hw_ret ?_; refine ⟨.inr rfl, ?_⟩
        have he := rk_3 h0 (by assumption)
        obtain rfl : k = n.toNat := by omega
        exact ⟨_, _, _, _, rfl, (by (repeat' apply And.intro) <;> first | trivial | exact Nat.le_of_ble_eq_true rfl | rfl), rfl, (by (repeat' apply And.intro) <;> first | trivial | exact Nat.le_of_ble_eq_true rfl | rfl), ⟨cci (congrArg asI he.1.symm), cci he.2.symm, trivial⟩⟩
theorem good62 : goodFn Tryd.prog 62 := ⟨Tryd.f62, Tryd.func62, by kernel_rfl, by kernel_rfl⟩
theorem cRReduce (n : Int) (l : List Fd) (s : AS) : HPure Tryd.prog 62 [pI n, pP (fdl l), pA s] (prOf [pA (rkS n l s), pI (rkE n l s)]) := by
  refine hpure_of (nt := 44) Trydok Tryd.func62 rfl rfl (Nat.le_of_ble_eq_true rfl) ?_; refine hw_seq ?_; refine hw_region (E := TrydE) Trydok ?_; (iterate 2 refine rq rfl rfl rfl rfl rfl ?_); refine rg_nil ?_; show HW _ _ _ _ _
  (iterate 2 refine hw_seq ?_); refine hw_region (E := TrydE) Trydok ?_; (iterate 2 refine rq rfl rfl rfl rfl rfl ?_); refine rc rfl rfl rfl rfl rfl rfl good19 (cRValid n l) (CoL.refl _) rfl rfl ?_; refine rq rfl rfl rfl rfl rfl ?_
  refine rg_nil ?_; show HW _ _ _ _ _; refine hw_seq ?_; refine hw_region (E := TrydE) Trydok ?_; (iterate 2 refine rq rfl rfl rfl rfl rfl ?_); refine rg_nil ?_; show HW _ _ _ _ _; refine hw_cond _ rfl (fun r0 => ?_) (fun r0 => ?_)
  · skip
    have h0 := r0
    have h0 := of_decide_eq_false (not_t h0)
    try simp only [Int.toNat_natCast] at h0
    refine hw_seq ?_; refine hw_region (E := TrydE) Trydok ?_; (iterate 3 refine rq rfl rfl rfl rfl rfl ?_); refine rg_nil ?_; show HW _ _ _ _ _; refine hw_ret ?_; refine ⟨.inr rfl, ?_⟩
    have he := rk_1 (s := s) h0
    exact ⟨_, _, _, _, rfl, (by (repeat' apply And.intro) <;> first | trivial | exact Nat.le_of_ble_eq_true rfl | rfl), rfl, (by (repeat' apply And.intro) <;> first | trivial | exact Nat.le_of_ble_eq_true rfl | rfl), ⟨cci (congrArg asI he.1.symm), cci he.2.symm, trivial⟩⟩
  · skip
    have h0 := r0
    have h0 := of_decide_eq_true (not_f h0)
    try simp only [Int.toNat_natCast] at h0
    refine hw_skip ?_; show HW _ _ _ _ _; (iterate 2 refine hw_seq ?_); refine hw_region (E := TrydE) Trydok ?_; (iterate 3 refine rq rfl rfl rfl rfl rfl ?_)
    refine rc rfl rfl rfl rfl rfl rfl good27 (cRSkey n l s) (CoL.refl _) rfl rfl ?_; refine rq rfl rfl rfl rfl rfl ?_; refine rg_nil ?_; show HW _ _ _ _ _; refine hw_cond _ rfl (fun r1 => ?_) (fun r1 => ?_)
    · skip
      have h1 := r1
      have h1 := not_t h1
      refine hw_seq ?_; refine hw_region (E := TrydE) Trydok ?_; (iterate 2 refine rq rfl rfl rfl rfl rfl ?_); refine rg_nil ?_; show HW _ _ _ _ _; refine hw_ret ?_; refine ⟨.inr rfl, ?_⟩
      have he := rk_2 h0 (by assumption)
      exact ⟨_, _, _, _, rfl, (by (repeat' apply And.intro) <;> first | trivial | exact Nat.le_of_ble_eq_true rfl | rfl), rfl, (by (repeat' apply And.intro) <;> first | trivial | exact Nat.le_of_ble_eq_true rfl | rfl), ⟨cci (congrArg asI he.1.symm), cci he.2.symm, trivial⟩⟩
    · skip
      have h1 := r1
      have h1 := not_f h1
      refine hw_skip ?_; show HW _ _ _ _ _; (iterate 2 refine hw_seq ?_)
      have hv := vErr_ok h0
      refine hw_region (E := TrydE) Trydok ?_; (iterate 3 refine rq rfl rfl rfl rfl rfl ?_); refine rg_nil ?_; show HW _ _ _ _ _; refine hw_block ?_
      refine hw_loopK (ι := Nat) ⟨[(0, some _), (1, some _)], []⟩ ⟨⟨⟨_, rfl, CoR.refl _⟩, ⟨_, rfl, CoR.refl _⟩, trivial⟩, trivial⟩ (fun k => ⟨[(2, some (vA (lessK n l s k))), (9, some (vI (n - 1 - (k : Int))))], []⟩) (fun k => k ≤ n.toNat) (fun k => n.toNat - k) (0) (Nat.zero_le _) ⟨⟨⟨_, rfl, (by first | exact CoR.refl _ | exact coi (by omega) | exact cob (by simp_all))⟩, ⟨_, rfl, (coi (by omega))⟩, trivial⟩, trivial⟩ ?_
      rintro k hk
      (iterate 2 refine hw_seq ?_); refine hw_region (E := TrydE) Trydok ?_; (iterate 2 refine rq rfl rfl rfl rfl rfl ?_); refine rg_nil ?_; show HW _ _ _ _ _; refine hw_cond _ rfl (fun r2 => ?_) (fun r2 => ?_)
      · skip
        have h2 := r2
        have h2 := of_decide_eq_true h2
        try simp only [Int.toNat_natCast] at h2
        refine hw_skip ?_; show HW _ _ _ _ _; refine hw_seq ?_; refine hw_block ?_; refine hw_seq ?_; refine hw_region (E := TrydE) Trydok ?_; (iterate 2 refine rq rfl rfl rfl rfl rfl ?_)
        refine rc rfl rfl rfl rfl rfl rfl good96 (cHas (lessK n l s k) (n - 1 - (k : Int))) (CoL.refl _) rfl rfl ?_; refine rq rfl rfl rfl rfl rfl ?_; refine rsplit rfl rfl (fun r3 => ?_) (fun r3 => ?_)
        · skip
          have h3 := r3
          (iterate 6 refine rq rfl rfl rfl rfl (gtt r3) ?_)
          refine rc rfl rfl rfl rfl rfl rfl good27 (cRSkey n l (noA (lessK n l s k) (n.toNat - 1 - k))) (⟨CoC.refl _, CoC.refl _, cci (noA_v _ _ (by omega)), trivial⟩) rfl (gtt r3) ?_; refine rq rfl rfl rfl rfl rfl ?_
          refine rg_nil ?_; show HW _ _ _ _ _; refine hw_cond _ rfl (fun r4 => ?_) (fun r4 => ?_)
          · skip
            have h4 := r4
            have h4 := bif_t r3 h4
            refine hw_region (E := TrydE) Trydok ?_; (iterate 5 refine rq rfl rfl rfl rfl rfl ?_); refine rg_nil ?_; show HW _ _ _ _ _; refine hw_region (E := TrydE) Trydok ?_; (iterate 3 refine rq rfl rfl rfl rfl rfl ?_)
            refine rg_nil ?_
            first | (refine ⟨k + 1, ?_, ?_, ?_⟩
                     · show k + 1 ≤ _; omega
                     · first | omega | (dsimp only; omega)
                     · exact ⟨⟨⟨_, rfl, (cor_i ((noA_v _ (n.toNat - 1 - k) (by omega)).trans (congrArg asI (lessK_t (by assumption)).symm)))⟩, ⟨_, rfl, (coi (by omega))⟩, ⟨_, rfl, CoR.refl _⟩, ⟨_, rfl, CoR.refl _⟩, trivial⟩, trivial⟩)
                  | (refine ⟨k + 1, ?_, ?_, ?_⟩
                     · show k + 1 ≤ _; omega
                     · first | omega | (dsimp only; omega)
                     · exact ⟨⟨⟨_, rfl, (cor_i (by rw [lessK_f (by assumption)]))⟩, ⟨_, rfl, (coi (by omega))⟩, ⟨_, rfl, CoR.refl _⟩, ⟨_, rfl, CoR.refl _⟩, trivial⟩, trivial⟩)
                  | (refine ⟨k + 1, ?_, ?_, ?_⟩
                     · show k + 1 ≤ _; omega
                     · first | omega | (dsimp only; omega)
                     · exact ⟨⟨⟨_, rfl, (cor_i (by rw [lessK_n (by have hh := hasI_nat (s := lessK n l s k) (i := n.toNat - 1 - k) (by omega); rw [← hh]; rw [show ((n.toNat - 1 - k : Nat) : Int) = n - 1 - (k : Int) by omega]; assumption)]))⟩, ⟨_, rfl, (coi (by omega))⟩, ⟨_, rfl, CoR.refl _⟩, ⟨_, rfl, CoR.refl _⟩, trivial⟩, trivial⟩)
          · skip
            have h4 := r4
            have h4 := bif_t r3 h4
            refine hw_skip ?_; show HW _ _ _ _ _; refine hw_region (E := TrydE) Trydok ?_; (iterate 3 refine rq rfl rfl rfl rfl rfl ?_); refine rg_nil ?_
            first | (refine ⟨k + 1, ?_, ?_, ?_⟩
                     · show k + 1 ≤ _; omega
                     · first | omega | (dsimp only; omega)
                     · exact ⟨⟨⟨_, rfl, (cor_i ((noA_v _ (n.toNat - 1 - k) (by omega)).trans (congrArg asI (lessK_t (by assumption)).symm)))⟩, ⟨_, rfl, (coi (by omega))⟩, ⟨_, rfl, CoR.refl _⟩, ⟨_, rfl, CoR.refl _⟩, trivial⟩, trivial⟩)
                  | (refine ⟨k + 1, ?_, ?_, ?_⟩
                     · show k + 1 ≤ _; omega
                     · first | omega | (dsimp only; omega)
                     · exact ⟨⟨⟨_, rfl, (cor_i (by rw [lessK_f (by assumption)]))⟩, ⟨_, rfl, (coi (by omega))⟩, ⟨_, rfl, CoR.refl _⟩, ⟨_, rfl, CoR.refl _⟩, trivial⟩, trivial⟩)
                  | (refine ⟨k + 1, ?_, ?_, ?_⟩
                     · show k + 1 ≤ _; omega
                     · first | omega | (dsimp only; omega)
                     · exact ⟨⟨⟨_, rfl, (cor_i (by rw [lessK_n (by have hh := hasI_nat (s := lessK n l s k) (i := n.toNat - 1 - k) (by omega); rw [← hh]; rw [show ((n.toNat - 1 - k : Nat) : Int) = n - 1 - (k : Int) by omega]; assumption)]))⟩, ⟨_, rfl, (coi (by omega))⟩, ⟨_, rfl, CoR.refl _⟩, ⟨_, rfl, CoR.refl _⟩, trivial⟩, trivial⟩)
        · skip
          have h3 := r3
          (iterate 7 refine rk rfl rfl rfl (gft r3) ?_); refine rq rfl rfl rfl rfl rfl ?_ (hp := r3); refine rg_nil ?_; show HW _ _ _ _ _; refine hw_cond _ rfl (fun e => by cases e) (fun _ => ?_); refine hw_skip ?_
          show HW _ _ _ _ _; refine hw_region (E := TrydE) Trydok ?_; (iterate 3 refine rq rfl rfl rfl rfl rfl ?_); refine rg_nil ?_
          first | (refine ⟨k + 1, ?_, ?_, ?_⟩
                   · show k + 1 ≤ _; omega
                   · first | omega | (dsimp only; omega)
                   · exact ⟨⟨⟨_, rfl, (cor_i ((noA_v _ (n.toNat - 1 - k) (by omega)).trans (congrArg asI (lessK_t (by assumption)).symm)))⟩, ⟨_, rfl, (coi (by omega))⟩, ⟨_, rfl, CoR.refl _⟩, ⟨_, rfl, CoR.refl _⟩, trivial⟩, trivial⟩)
                | (refine ⟨k + 1, ?_, ?_, ?_⟩
                   · show k + 1 ≤ _; omega
                   · first | omega | (dsimp only; omega)
                   · exact ⟨⟨⟨_, rfl, (cor_i (by rw [lessK_f (by assumption)]))⟩, ⟨_, rfl, (coi (by omega))⟩, ⟨_, rfl, CoR.refl _⟩, ⟨_, rfl, CoR.refl _⟩, trivial⟩, trivial⟩)
                | (refine ⟨k + 1, ?_, ?_, ?_⟩
                   · show k + 1 ≤ _; omega
                   · first | omega | (dsimp only; omega)
                   · exact ⟨⟨⟨_, rfl, (cor_i (by rw [lessK_n (by have hh := hasI_nat (s := lessK n l s k) (i := n.toNat - 1 - k) (by omega); rw [← hh]; rw [show ((n.toNat - 1 - k : Nat) : Int) = n - 1 - (k : Int) by omega]; assumption)]))⟩, ⟨_, rfl, (coi (by omega))⟩, ⟨_, rfl, CoR.refl _⟩, ⟨_, rfl, CoR.refl _⟩, trivial⟩, trivial⟩)
      · skip
        have h2 := r2
        have h2 := of_decide_eq_false h2
        try simp only [Int.toNat_natCast] at h2
        refine hw_exit ?_; show HW _ _ _ _ _; refine hw_seq ?_; refine hw_region (E := TrydE) Trydok ?_; (iterate 3 refine rq rfl rfl rfl rfl rfl ?_); refine rg_nil ?_; show HW _ _ _ _ _; refine hw_ret ?_; refine ⟨.inr rfl, ?_⟩
        have he := rk_3 h0 (by assumption)
        obtain rfl : k = n.toNat := by omega
        exact ⟨_, _, _, _, rfl, (by (repeat' apply And.intro) <;> first | trivial | exact Nat.le_of_ble_eq_true rfl | rfl), rfl, (by (repeat' apply And.intro) <;> first | trivial | exact Nat.le_of_ble_eq_true rfl | rfl), ⟨cci (congrArg asI he.1.symm), cci he.2.symm, trivial⟩⟩
end Go.Hx
end
section
namespace Go.Hx
theorem shl_v {n : Int} (h0 : 0 ≤ n) (h1 : n ≤ 16) : IntKind.wrap .i64 (1 * 2 ^ min n.toNat IntKind.i64.bits) = ((2 ^ n.toNat : Nat) : Int) := by
  have h2 : 2 ^ n.toNat ≤ 2 ^ 16 := Nat.pow_le_pow_right (by omega) (by omega)
  have e : (1 : Int) * 2 ^ min n.toNat IntKind.i64.bits = ((2 ^ n.toNat : Nat) : Int) := by
    rw [show min n.toNat IntKind.i64.bits = n.toNat from Nat.min_eq_left (by show n.toNat ≤ 64; omega), Int.natCast_pow, Int.one_mul]
    rfl
  rw [e]
  have h3 : ((2 ^ n.toNat : Nat) : Int) ≤ 65536 := by omega
  have h4 : 0 ≤ ((2 ^ n.toNat : Nat) : Int) := Int.natCast_nonneg _
  generalize ((2 ^ n.toNat : Nat) : Int) = z at *
  exact wrap_inR (by simp only [inR, loOf, hiOf]; omega)
theorem mk_pre {m : Nat} (h : m ≤ 65536) : 0 ≤ (m : Int) ∧ (m : Int) ≤ m ∧ (m : Int) ≤ 9223372036854775807 ∧ ((1 : Nat) : Int) * m ≤ 281474976710656 := by omega
def bC : Bool → Nat → PV := fun b _ => .raw (.bool b)
def supN (n : Int) (l : List Fd) (k : Nat) : Bool := decide (clo l (BitVec.ofNat 32 k) = fullI n)
def supT (n : Int) (l : List Fd) (i : Nat) : List Bool := (List.range (2 ^ n.toNat)).map fun k => decide (k < i) && supN n l k
theorem supT_len (n : Int) (l : List Fd) (i : Nat) : (supT n l i).length = 2 ^ n.toNat := by unfold supT; rw [List.length_map, List.length_range]
theorem supT_get {n : Int} {l : List Fd} {i k : Nat} (h : k < 2 ^ n.toNat) : (supT n l i)[k]? = some (decide (k < i) && supN n l k) := by
  unfold supT
  rw [List.getElem?_map, List.getElem?_range h]
  rfl
theorem supT_set {n : Int} {l : List Fd} {i : Nat} (h : i < 2 ^ n.toNat) : (supT n l i).set i (supN n l i) = supT n l (i + 1) := by
  apply List.ext_getElem?
  intro k
  rw [List.getElem?_set, supT_len]
  by_cases hk : k < 2 ^ n.toNat
  · rw [supT_get hk, supT_get hk]
    by_cases e : i = k
    · subst e
      rw [if_pos rfl, if_pos h, decide_eq_true (Nat.lt_succ_self _)]
      rfl
    · rw [if_neg e]
      congr 2
      exact decide_eq_decide.2 (by omega)
  · have e : i ≠ k := by omega
    rw [if_neg e, List.getElem?_eq_none (by rw [supT_len]; omega), List.getElem?_eq_none (by rw [supT_len]; omega)]
theorem supT_zero {n : Int} {l : List Fd} {m : Nat} {f : Nat → Nat → PV} {e : TypeId} (hm : m = 2 ^ n.toNat) (hf : ∀ i, f i 0 = .raw (.bool false)) : CoO (.arr true 1 e m f) (.arr true 1 e (2 ^ n.toNat) (lf bC (supT n l 0))) := by
  subst hm
  refine ⟨fun h => h, rfl, rfl, rfl, fun i j hi hj => CoP.of_eq ?_⟩
  have hj : j < 1 := hj
  have hi : i < 2 ^ n.toNat := hi
  obtain rfl : j = 0 := by omega
  rw [hf]
  unfold lf
  rw [List.getD_eq_getElem?_getD, supT_get hi]
  rfl
def supL (n : Int) (l : List Fd) : List Bool := supT n l (2 ^ n.toNat)
theorem supT_step {n : Int} {l : List Fd} {i k : Nat} {e : TypeId} {x : PV} (h : i < 2 ^ n.toNat) (hk : k = i) (hx : x = bC (supN n l i) 0) : CoO (.arr true 1 e (2 ^ n.toNat) (setEl (lf bC (supT n l i)) k 0 [x])) (.arr true 1 e (2 ^ n.toNat) (lf bC (supT n l (i + 1)))) := by
  rw [← supT_set h]
  exact co_set1 (fun h => h) (supT_len _ _ _).symm hk (by rw [supT_len]; exact h) hx
theorem supL_get {n : Int} {l : List Fd} {k : Nat} (h : k < 2 ^ n.toNat) : (supL n l).getD k default = supN n l k := by
  unfold supL
  rw [List.getD_eq_getElem?_getD, supT_get h, decide_eq_true h]
  rfl
theorem supL_len (n : Int) (l : List Fd) : (supL n l).length = 2 ^ n.toNat := supT_len _ _ _
end Go.Hx
end
section
namespace Go.Hx
open Go.Proofs
set_option maxRecDepth 100000
theorem good88 : goodFn Tryd.prog 88 := ⟨Tryd.f88, Tryd.func88, by kernel_rfl, by kernel_rfl⟩
theorem cSupers (n : Int) (l : List Fd) (h0n : 0 ≤ n) (h1n : n ≤ 16) : HPure Tryd.prog 88 [pI n, pP (fdl l)] (prOf [pP (psl 1 bC (supL n l))]) := by
  refine hpure_of (nt := 27) Trydok Tryd.func88 rfl rfl (Nat.le_of_ble_eq_true rfl) ?_; refine hw_seq ?_; refine hw_region (E := TrydE) Trydok ?_; refine rq rfl rfl rfl rfl rfl ?_; refine rg_nil ?_; show HW _ _ _ _ _
  refine hw_seq ?_
  have hs := shl_v h0n h1n
  have hpw : 2 ^ n.toNat ≤ 2 ^ 16 := Nat.pow_le_pow_right (by omega) (by omega)
  refine hw_region (E := TrydE) Trydok ?_; (iterate 2 refine rq rfl rfl rfl rfl rfl ?_); refine rm 0 rfl rfl rfl rfl rfl rfl ?_ (hp := (by rw [hs]; exact mk_pre hpw)); refine rq rfl rfl rfl rfl rfl ?_; refine rg_nil ?_
  show HW _ _ _ _ _; (iterate 2 refine hw_seq ?_); refine hw_region (E := TrydE) Trydok ?_; (iterate 3 refine rq rfl rfl rfl rfl rfl ?_); refine rg_nil ?_; show HW _ _ _ _ _; refine hw_block ?_
  refine hw_loopK (ι := Nat) ⟨[(0, some _), (1, some _)], []⟩ ⟨⟨⟨_, rfl, CoR.refl _⟩, ⟨_, rfl, CoR.refl _⟩, trivial⟩, trivial⟩ (fun i => ⟨[(5, some (.v (.one (.ref 0 (2 ^ n.toNat))))), (11, some (vI (2 ^ n.toNat : Nat))), (12, some (vI i))], [(0, some (.arr true 1 4 (2 ^ n.toNat) (lf bC (supT n l i))))]⟩) (fun i => i ≤ 2 ^ n.toNat) (fun i => 2 ^ n.toNat - i) (0) (Nat.zero_le _) ⟨⟨⟨_, rfl, (ref_to (by rw [hs]; rfl))⟩, ⟨_, rfl, (coi (by rw [hs]; rfl))⟩, ⟨_, rfl, (by first | exact CoR.refl _ | exact coi (by omega) | exact cob (by simp_all))⟩, trivial⟩, ⟨⟨_, rfl, (supT_zero (by rw [hs]; rfl) (fun _ => rfl))⟩, trivial⟩⟩ ?_
  rintro i hi
  refine hw_seq ?_; refine hw_region (E := TrydE) Trydok ?_; refine rq rfl rfl rfl rfl rfl ?_; refine rg_nil ?_; show HW _ _ _ _ _; refine hw_seq ?_; refine hw_cond _ rfl (fun r0 => ?_) (fun r0 => ?_)
  · skip
    have h0 := r0
    have h0 := of_decide_eq_true h0
    try simp only [Int.toNat_natCast] at h0
    refine hw_skip ?_; show HW _ _ _ _ _; refine hw_seq ?_; refine hw_block ?_; refine hw_seq ?_; refine hw_region (E := TrydE) Trydok ?_; (iterate 2 refine rq rfl rfl rfl rfl rfl ?_); refine rg_nil ?_; show HW _ _ _ _ _
    refine hw_region (E := TrydE) Trydok ?_; (iterate 5 refine rq rfl rfl rfl rfl rfl ?_); refine rc rfl rfl rfl rfl rfl rfl good46 (cClose l (BitVec.ofNat 32 i)) (⟨CoC.refl _, cci (set_u64 (by omega)), trivial⟩) rfl rfl ?_
    refine rq rfl rfl rfl rfl rfl ?_; refine rc rfl rfl rfl rfl rfl rfl good98 (cKFull n h0n h1n) (CoL.refl _) rfl rfl ?_; (iterate 2 refine rq rfl rfl rfl rfl rfl ?_); refine rs rfl rfl rfl rfl rfl ?_; refine rg_nil ?_
    show HW _ _ _ _ _; refine hw_region (E := TrydE) Trydok ?_; (iterate 2 refine rq rfl rfl rfl rfl rfl ?_); refine rg_nil ?_; refine ⟨i + 1, ?_, ?_, ?_⟩
    · show i + 1 ≤ _; omega
    · first | omega | (dsimp only; omega)
    · exact ⟨⟨⟨_, rfl, (by first | exact CoR.refl _ | exact coi (by omega) | exact cob (by simp_all))⟩, ⟨_, rfl, (by first | exact CoR.refl _ | exact coi (by omega) | exact cob (by simp_all))⟩, ⟨_, rfl, (by first | exact CoR.refl _ | exact coi (by omega) | exact cob (by simp_all))⟩, ⟨_, rfl, CoR.refl _⟩, ⟨_, rfl, CoR.refl _⟩, trivial⟩, ⟨⟨_, rfl, (supT_step (by omega) rfl (by rw [asI_eq]; rfl))⟩, trivial⟩⟩
  · skip
    have h0 := r0
    have h0 := of_decide_eq_false h0
    try simp only [Int.toNat_natCast] at h0
    obtain rfl : i = 2 ^ n.toNat := by omega
    refine hw_exit ?_; show HW _ _ _ _ _; refine hw_seq ?_; refine hw_region (E := TrydE) Trydok ?_; (iterate 2 refine rq rfl rfl rfl rfl rfl ?_); refine rg_nil ?_; refine hw_freeze 4 rfl rfl rfl ?_; show HW _ _ _ _ _
    refine hw_ret ?_; refine ⟨.inr rfl, ?_⟩
    exact ⟨_, _, _, _, rfl, (by (repeat' apply And.intro) <;> first | trivial | exact Nat.le_of_ble_eq_true rfl | rfl), rfl, (by (repeat' apply And.intro) <;> first | trivial | exact Nat.le_of_ble_eq_true rfl | rfl), ⟨CoC.one (CoP.sl (supT_len _ _ _) (.inl rfl) (fun h => by cases h) (fun i j hi hj => CoP.refl _)), trivial⟩⟩
end Go.Hx
end
section
namespace Go.Hx
theorem xor_v {i a : Nat} (hi : i < 65536) (ha : a < 16) : bitV .xor .i64 (i : Int) (IntKind.wrap .i64 (1 * 2 ^ min (a : Int).toNat IntKind.i64.bits)) = ((i ^^^ 2 ^ a : Nat) : Int) := by
  have h2 : 2 ^ a ≤ 2 ^ 15 := Nat.pow_le_pow_right (by omega) (by omega)
  have h3 : i ^^^ 2 ^ a < 2 ^ 16 := Nat.xor_lt_two_pow hi (by omega)
  have e : IntKind.wrap .i64 (1 * 2 ^ min (a : Int).toNat IntKind.i64.bits) = ((2 ^ a : Nat) : Int) := by
    have := shl_v (n := (a : Int)) (by omega) (by omega)
    rwa [Int.toNat_natCast] at this ⊢
  rw [e]
  show IntKind.wrap .i64 ((BitVec.ofInt 64 (i : Int) ^^^ BitVec.ofInt 64 ((2 ^ a : Nat) : Int)).toNat : Int) = _
  have e1 : (BitVec.ofInt 64 (i : Int) ^^^ BitVec.ofInt 64 ((2 ^ a : Nat) : Int)).toNat = i ^^^ 2 ^ a := by
    rw [BitVec.toNat_xor, BitVec.ofInt_natCast, BitVec.ofInt_natCast, BitVec.toNat_ofNat, BitVec.toNat_ofNat, Nat.mod_eq_of_lt (by omega), Nat.mod_eq_of_lt (by omega)]
  rw [e1]
  generalize i ^^^ 2 ^ a = z at *
  exact wrap_inR (by simp only [inR, loOf, hiOf]; omega)
theorem xor_bit {i a j : Nat} : (i ^^^ 2 ^ a).testBit j = if j = a then !i.testBit j else i.testBit j := by
  rw [Nat.testBit_xor, Nat.testBit_two_pow]
  by_cases h : j = a
  · subst h; simp
  · rw [if_neg h, decide_eq_false (fun e => h e.symm)]; simp
theorem bit_n {i k : Nat} (hk : k < 32) : (BitVec.ofNat 32 i).getLsbD k = i.testBit k := by
  rw [BitVec.getLsbD_ofNat, decide_eq_true hk, Bool.true_and]
theorem xor_set {i a : Nat} (ha : a < 32) (h : i.testBit a = true) : (BitVec.ofNat 32 (i ^^^ 2 ^ a) : AS) = noA (BitVec.ofNat 32 i) a := by
  apply BitVec.eq_of_getLsbD_eq
  intro k hk
  unfold noA
  rw [bit_n hk, xor_bit, BitVec.getLsbD_and, BitVec.getLsbD_not, decide_eq_true hk, Bool.true_and, bit_n hk]
  have h1 : ((1 : AS) <<< a).getLsbD k = decide (k = a) := bit_one a k hk
  rw [h1]
  by_cases e : k = a
  · subst e
    rw [if_pos rfl, h, decide_eq_true rfl]
    rfl
  · rw [if_neg e, decide_eq_false e]
    simp
theorem xor_lt {i a : Nat} (hi : i < 65536) (ha : a < 16) (h : i.testBit a = true) : i ^^^ 2 ^ a < i := by
  have h3 : i ^^^ 2 ^ a < 2 ^ 16 := Nat.xor_lt_two_pow hi (Nat.pow_lt_pow_right (by omega) (by omega))
  have e := congrArg BitVec.toNat (xor_set (i := i) (a := a) (by omega) h)
  have hs : sub (noA (BitVec.ofNat 32 i) a) (BitVec.ofNat 32 i) := sub_and_r
  have hne : noA (BitVec.ofNat 32 i) a ≠ BitVec.ofNat 32 i := fun e => by
    have e1 := congrArg (fun z : AS => z.getLsbD a) e
    unfold noA at e1
    have h1 : ((1 : AS) <<< a).getLsbD a = decide (a = a) := bit_one a a (by omega)
    simp only [BitVec.getLsbD_and, BitVec.getLsbD_not, h1, bit_n (show a < 32 by omega), h] at e1
    simp at e1
  have hl := sub_lt hs hne
  rw [← e, BitVec.toNat_ofNat, BitVec.toNat_ofNat, Nat.mod_eq_of_lt (by omega), Nat.mod_eq_of_lt (by omega)] at hl
  exact hl
theorem xor_gt {i a : Nat} (hi : i < 65536) (ha : a < 16) (h : i.testBit a = false) : i < i ^^^ 2 ^ a := by
  have h3 : i ^^^ 2 ^ a < 2 ^ 16 := Nat.xor_lt_two_pow hi (Nat.pow_lt_pow_right (by omega) (by omega))
  have hb : (i ^^^ 2 ^ a).testBit a = true := by rw [xor_bit, if_pos rfl, h]; rfl
  have := xor_lt h3 ha hb
  rwa [Nat.xor_assoc, Nat.xor_self, Nat.xor_zero] at this
section
variable {n : Int} {l : List Fd}
theorem small_sub (h0 : 0 ≤ n) (h1 : n ≤ 16) {i : Nat} (h : i < 2 ^ n.toNat) : sub (BitVec.ofNat 32 i) (fullI n) := sub_bit.2 fun k hk hb => by
  rw [bit_n hk] at hb
  unfold fullI
  rw [fullS_bit _ k hk, Nat.min_eq_left (by omega)]
  rw [decide_eq_true_iff]
  apply Classical.byContradiction
  intro hge
  have hlt : i < 2 ^ k := Nat.lt_of_lt_of_le h (Nat.pow_le_pow_right (by omega) (by omega))
  rw [Nat.testBit_lt_two_pow hlt] at hb
  cases hb
theorem skey_sup (hv : vErr n l = 0) {i : Nat} (h : i < 2 ^ n.toNat) : skey n l (BitVec.ofNat 32 i) = supN n l i := by
  obtain ⟨h0, h1, _⟩ := vErr_ok hv
  unfold skey supN
  exact decide_eq_decide.2 ⟨fun e => e.2.2, fun e => ⟨hv, small_sub h0 h1 h, e⟩⟩
theorem xor_small {a i : Nat} (h : i < 2 ^ n.toNat) (ha : a < n.toNat) : i ^^^ 2 ^ a < 2 ^ n.toNat := Nat.xor_lt_two_pow h (Nat.pow_lt_pow_right (by omega) ha)
def okA (n : Int) (l : List Fd) (i a : Nat) : Bool := supN n l i && (List.range a).all fun b => !(i.testBit b && supN n l (i ^^^ 2 ^ b))
theorem okA_succ (i a : Nat) : okA n l i (a + 1) = (okA n l i a && !(i.testBit a && supN n l (i ^^^ 2 ^ a))) := by
  unfold okA
  rw [List.range_succ, List.all_append]
  simp only [List.all_cons, List.all_nil, Bool.and_true, Bool.and_assoc]
theorem okA_key (hv : vErr n l = 0) {i : Nat} (h : i < 2 ^ n.toNat) : isKey n l (BitVec.ofNat 32 i) = okA n l i n.toNat := by
  obtain ⟨h0, h1, _⟩ := vErr_ok hv
  unfold isKey okA
  rw [skey_sup hv h]
  congr 1
  have key : ∀ a, a < n.toNat → (!((BitVec.ofNat 32 i : AS).getLsbD a && skey n l (noA (BitVec.ofNat 32 i) a))) = !(i.testBit a && supN n l (i ^^^ 2 ^ a)) := fun a ha => by
    rw [bit_n (by omega)]
    cases hb : i.testBit a with
    | false => rfl
    | true => rw [← xor_set (by omega) hb, skey_sup hv (xor_small h ha)]
  rw [Bool.eq_iff_iff, List.all_eq_true, List.all_eq_true]
  exact ⟨fun hh a ha => by rw [← key a (List.mem_range.1 ha)]; exact hh a ha, fun hh a ha => by rw [key a (List.mem_range.1 ha)]; exact hh a ha⟩
theorem okA_false {i a : Nat} (hv : vErr n l = 0) (h : i < 2 ^ n.toNat) (ha : a ≤ n.toNat) (hf : okA n l i a = false) : isKey n l (BitVec.ofNat 32 i) = false := by
  rw [okA_key hv h]
  have : ∀ d, okA n l i (a + d) = false := by
    intro d
    induction d with
    | zero => exact hf
    | succ d ih => rw [← Nat.add_assoc, okA_succ, ih]; rfl
  have e := this (n.toNat - a)
  rwa [show a + (n.toNat - a) = n.toNat by omega] at e
theorem okA_0 {i : Nat} (h : i < 2 ^ n.toNat) : ((supL n l).getD ((i : Nat) : Int).toNat default == true) = okA n l i 0 := by
  show ((supL n l).getD i default == true) = _
  rw [supL_get h]
  unfold okA
  simp
section
variable {i a : Nat} (hv : vErr n l = 0) (hi : i < 2 ^ n.toNat) (ha : (a : Int) < n) (hx : i ^^^ 2 ^ a < 2 ^ n.toNat)
theorem lt_bit (hi : i < 65536) (ha : a < 16) : (decide (((i ^^^ 2 ^ a : Nat) : Int) < (i : Int)) == true) = i.testBit a := by
  cases hb : i.testBit a with
  | false =>
    have := xor_gt hi ha hb
    rw [decide_eq_false (by omega)]; rfl
  | true =>
    have := xor_lt hi ha hb
    rw [decide_eq_true (by omega)]; rfl
include hv hi ha hx
theorem okA_t (h3 : (decide (((i ^^^ 2 ^ a : Nat) : Int) < (i : Int)) == true) = true) (h4 : ((supL n l).getD (((i ^^^ 2 ^ a : Nat) : Int)).toNat default == true) = true) : false = okA n l i (a + 1) := by
  have hv0 := vErr_ok hv
  have hpw : 2 ^ n.toNat ≤ 2 ^ 16 := Nat.pow_le_pow_right (by omega) (by omega)
  rw [lt_bit (by omega) (by omega)] at h3
  have h4 : ((supL n l).getD (i ^^^ 2 ^ a) default == true) = true := h4
  rw [supL_get hx] at h4
  have h4 : supN n l (i ^^^ 2 ^ a) = true := by simpa using h4
  rw [okA_succ, h3, h4]
  simp
theorem okA_f (h : (decide (((i ^^^ 2 ^ a : Nat) : Int) < (i : Int)) == true) = false ∨ ((supL n l).getD (((i ^^^ 2 ^ a : Nat) : Int)).toNat default == true) = false) : okA n l i a = okA n l i (a + 1) := by
  have hv0 := vErr_ok hv
  have hpw : 2 ^ n.toNat ≤ 2 ^ 16 := Nat.pow_le_pow_right (by omega) (by omega)
  rw [okA_succ]
  rcases h with h | h
  · rw [lt_bit (by omega) (by omega)] at h
    rw [h]; simp
  · have h4 : ((supL n l).getD (i ^^^ 2 ^ a) default == true) = false := h
    rw [supL_get hx] at h4
    have h4 : supN n l (i ^^^ 2 ^ a) = false := by simpa using h4
    rw [h4]; simp
end
theorem key_tt {i a : Nat} (hv : vErr n l = 0) (hi : i < 2 ^ n.toNat) (ha : a ≤ n.toNat) (h : okA n l i a = true) (h1 : ¬ (a : Int) < n) : isKey n l (BitVec.ofNat 32 i) = true := by
  rw [okA_key hv hi]
  have := (vErr_ok hv).1
  rwa [show n.toNat = a by omega]
theorem key_no {i a : Nat} (h : okA n l i a = false) (h1 : okA n l i a = true) {p : Prop} : p := by
  rw [h] at h1
  cases h1
end
end Go.Hx
end
