/- A part of the proof: lemmas for the theorem of this claim, merged by a program of ours out of Cs24, V23. -/
import Derived.Test.YtgeliioenkmfhaaGreatDoorZ30
set_option linter.all false
section
namespace Go.Hx
section
variable {n : Int} {l : List Fd}
theorem inU_all (h : vErr n l = 0) : ∀ f ∈ l, sub f.lhs (fullI n) ∧ sub f.rhs (fullI n) := fun f hf => by
  obtain ⟨h0, h1, _, h3⟩ := vErr_ok h
  exact (inU_iff h0 h1).1 (List.all_eq_true.1 h3 f hf)
theorem full_closed (h : vErr n l = 0) : closedB l (fullI n) := fun f hf _ => (inU_all h f hf).2
theorem clo_full (h : vErr n l = 0) {x : AS} (hx : sub x (fullI n)) : sub (clo l x) (fullI n) := clo_least (full_closed h) hx
end
theorem mapT {α β : Type} [Inhabited α] {f : α → β} {l : List α} {i : Nat} (h : i < l.length) : (l.take (i + 1)).map f = (l.take i).map f ++ [f (l.getD i default)] := by
  rw [take_snoc h, List.map_append]
  rfl
structure Dps where
  n : BitVec 8
  l : List Dp
deriving Inhabited
def Dps.num (d : Dps) : Int := ((d.n.toNat % 7 : Nat) : Int)
def Dps.fds (d : Dps) : List Fd := d.l.map (Dp.fd d.num)
def Dps.c (d : Dps) : Nat → PV
  | 0 => .raw (.int .u8 (d.n.toNat : Int))
  | 1 => dpl d.l
  | _ => .any
abbrev Dps.pc (d : Dps) : PC := .agg [d.c 0, d.c 1]
theorem num_le (d : Dps) : 0 ≤ d.num ∧ d.num ≤ 6 := by unfold Dps.num; omega
theorem dps_ok {d : Dps} (h : d.l.length ≤ 6) : vErr d.num d.fds = 0 := by
  obtain ⟨h0, h1⟩ := num_le d
  unfold vErr
  rw [if_neg (by omega), if_neg (by unfold Dps.fds; rw [List.length_map]; omega), if_pos]
  rw [List.all_eq_true]
  intro f hf
  unfold Dps.fds at hf
  obtain ⟨x, hx, rfl⟩ := List.mem_map.1 hf
  exact (inU_iff h0 (by omega)).2 ⟨sub_and_l, sub_and_l⟩
theorem dps_err {d : Dps} (h : d.l.length ≤ 6) : errS d.num d.fds 8 = 0 := by
  unfold errS
  rw [if_pos (dps_ok h), if_neg (by have := (num_le d).2; omega)]
end Go.Hx
end
section
namespace Go.Hx
open Go.Proofs
set_option maxRecDepth 100000
theorem good15 : goodFn Tryz.prog 15 := ⟨Tryz.f15, Tryz.func15, by kernel_rfl, by kernel_rfl⟩
theorem cList (n : Int) (l : List Dp) (hl : l.length ≤ 16777216) : HPure Tryz.prog 15 [pI n, pP (dpl l)] (prOf [pP (fdl (l.map (Dp.fd n)))]) := by
  refine hpure_of (nt := 37) Tryzok Tryz.func15 rfl rfl (Nat.le_of_ble_eq_true rfl) ?_; refine hw_seq ?_; refine hw_region (E := TryzE) Tryzok ?_; refine rq rfl rfl rfl rfl rfl ?_; refine rg_nil ?_; show HW _ _ _ _ _
  refine hw_seq ?_; refine hw_region (E := TryzE) Tryzok ?_; refine rq rfl rfl rfl rfl rfl ?_; refine rc rfl rfl rfl rfl rfl rfl good39 (cRFull n) (CoL.refl _) rfl rfl ?_; refine rq rfl rfl rfl rfl rfl ?_; refine rg_nil ?_
  show HW _ _ _ _ _; refine hw_seq ?_; refine hw_region (E := TryzE) Tryzok ?_; refine rq rfl rfl rfl rfl rfl ?_; refine rg_nil ?_; show HW _ _ _ _ _; (iterate 2 refine hw_seq ?_); refine hw_region (E := TryzE) Tryzok ?_
  refine rq rfl rfl rfl rfl rfl ?_; refine rg_nil ?_; show HW _ _ _ _ _; refine hw_block ?_
  refine hw_adopt 6 900 true 2 32 (lf Fd.c []) (by decide) rfl (CoP.sl rfl (.inr rfl) (fun h => h) (fun i j hi _ => absurd hi (Nat.not_lt_zero i))) (.inr rfl) rfl ?_
  refine hw_loopK (ι := Nat) ⟨[(1, some _), (5, some _)], []⟩ ⟨⟨⟨_, rfl, CoR.refl _⟩, ⟨_, rfl, CoR.refl _⟩, trivial⟩, trivial⟩ (fun i => ⟨[(6, some (.v (.one (.ref 900 ((l.take i).map (Dp.fd n)).length)))), (7, some (vI i))], [(900, some (.arr true 2 32 ((l.take i).map (Dp.fd n)).length (lf Fd.c ((l.take i).map (Dp.fd n)))))]⟩) (fun i => i ≤ l.length) (fun i => l.length - i) (0) (Nat.zero_le _) ⟨⟨⟨_, rfl, (by first | exact CoR.refl _ | exact coi (by omega) | exact cob (by simp_all))⟩, ⟨_, rfl, (by first | exact CoR.refl _ | exact coi (by omega) | exact cob (by simp_all))⟩, trivial⟩, ⟨⟨_, rfl, CoO.refl _⟩, trivial⟩⟩ ?_
  rintro i hi
  have hlen : ((l.take i).map (Dp.fd n)).length ≤ i := by rw [List.length_map, List.length_take]; omega
  (iterate 2 refine hw_seq ?_); refine hw_region (E := TryzE) Tryzok ?_; (iterate 4 refine rq rfl rfl rfl rfl rfl ?_); refine rg_nil ?_; show HW _ _ _ _ _; refine hw_cond _ rfl (fun r0 => ?_) (fun r0 => ?_)
  · skip
    have h0 := r0
    have h0 := of_decide_eq_true h0
    try simp only [Int.toNat_natCast] at h0
    refine hw_skip ?_; show HW _ _ _ _ _; refine hw_seq ?_; refine hw_block ?_; refine hw_draw (E := TryzE) Tryzok Tryzmixed [0, 1, 2, 3, 4, 5, 6, 7, 8, 9, 10, 11, 12, 13, 14, 15, 16, 17, 18, 19, 20] ?_
    (iterate 18 refine rq rfl rfl rfl rfl rfl ?_); refine rm 0 rfl rfl rfl rfl rfl rfl ?_; refine ra 1 true rfl rfl rfl rfl rfl rfl ?_; refine rq rfl rfl rfl rfl rfl ?_; refine rg_nil ?_; refine ⟨by kernel_rfl, ?_⟩
    show HW _ _ _ _ _; refine hw_region (E := TryzE) Tryzok ?_; (iterate 3 refine rq rfl rfl rfl rfl rfl ?_); refine rg_nil ?_; refine ⟨i + 1, ?_, ?_, ?_⟩
    · show i + 1 ≤ _; omega
    · first | omega | (dsimp only; omega)
    · exact ⟨⟨⟨_, rfl, (ref_app (mapT (by omega)))⟩, ⟨_, rfl, (by first | exact CoR.refl _ | exact coi (by omega) | exact cob (by simp_all))⟩, ⟨_, rfl, CoR.refl _⟩, ⟨_, rfl, CoR.refl _⟩, trivial⟩, ⟨⟨_, rfl, (arr_app2 (mapT (by omega)) (CoP.of_eq (congrArg (fun z => PV.raw (.int .u32 z)) (u8_and _ _))) (CoP.of_eq (congrArg (fun z => PV.raw (.int .u32 z)) (u8_and _ _))))⟩, trivial⟩⟩
  · skip
    have h0 := r0
    have h0 := of_decide_eq_false h0
    try simp only [Int.toNat_natCast] at h0
    obtain rfl : i = l.length := by omega
    refine hw_exit ?_; show HW _ _ _ _ _; refine hw_seq ?_; refine hw_region (E := TryzE) Tryzok ?_; (iterate 2 refine rq rfl rfl rfl rfl rfl ?_); refine rg_nil ?_; refine hw_freeze 4 rfl rfl rfl ?_; show HW _ _ _ _ _
    refine hw_ret ?_; refine ⟨.inr rfl, ?_⟩
    exact ⟨_, _, _, _, rfl, (by (repeat' apply And.intro) <;> first | trivial | exact Nat.le_of_ble_eq_true rfl | rfl), rfl, (by (repeat' apply And.intro) <;> first | trivial | exact Nat.le_of_ble_eq_true rfl | rfl), ⟨CoC.one (CoP.of_eq (by rw [List.take_length]; rfl)), trivial⟩⟩
theorem good5 : goodFn Tryz.prog 5 := ⟨Tryz.f5, Tryz.func5, by kernel_rfl, by kernel_rfl⟩
theorem cOf (d : Dps) (hl : d.l.length ≤ 16777216) : HPure Tryz.prog 5 [d.pc] (prOf [pI d.num, pP (fdl d.fds), pB (decide (d.l.length ≤ 6))]) := by
  refine hpure_of (nt := 19) Tryzok Tryz.func5 rfl rfl (Nat.le_of_ble_eq_true rfl) ?_; refine hw_seq ?_; refine hw_region (E := TryzE) Tryzok ?_; refine rm 0 rfl rfl rfl rfl rfl rfl ?_; (iterate 3 refine rq rfl rfl rfl rfl rfl ?_)
  refine rg_nil ?_; show HW _ _ _ _ _; refine hw_seq ?_; refine hw_region (E := TryzE) Tryzok ?_; (iterate 5 refine rq rfl rfl rfl rfl rfl ?_); refine rg_nil ?_; show HW _ _ _ _ _; refine hw_seq ?_
  refine hw_draw (E := TryzE) Tryzok Tryzmixed [0, 1, 2, 3, 4, 5, 6, 7, 8, 9, 10, 11] ?_; (iterate 4 refine rq rfl rfl rfl rfl rfl ?_); refine rc rfl rfl rfl rfl rfl rfl good15 (cList d.num d.l hl) (CoL.refl _) rfl rfl ?_
  (iterate 7 refine rq rfl rfl rfl rfl rfl ?_); refine rg_nil ?_; refine ⟨by kernel_rfl, ?_⟩; show HW _ _ _ _ _; refine hw_ret ?_; refine ⟨.inr rfl, ?_⟩
  exact ⟨_, _, _, _, rfl, (by (repeat' apply And.intro) <;> first | trivial | exact Nat.le_of_ble_eq_true rfl | rfl), rfl, (by (repeat' apply And.intro) <;> first | trivial | exact Nat.le_of_ble_eq_true rfl | rfl), ⟨cci (show (d.n.toNat : Int) % 7 = d.num by unfold Dps.num; omega), CoC.refl _, ccb (decide_eq_decide.2 (by omega)), trivial⟩⟩
end Go.Hx
end
