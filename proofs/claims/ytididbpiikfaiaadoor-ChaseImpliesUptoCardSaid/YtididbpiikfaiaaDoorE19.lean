/- A part of the proof: lemmas for the theorem of this claim, merged by a program of ours out of LyTz, TzW, Cs8, V6, Cs9, V7, Ch2. -/
import Derived.Shelf.Lays7
import Derived.Shelf.Spec.TrailingZeros
import Derived.Test.YtididbpiikfaiaaDoorProg
import Derived.Test.YtididbpiikfaiaaDoorE18
set_option linter.all false
section
namespace Go.Proofs
open Go.Shelf
def Tryd.lays28_ren : Go.Shelf.Ren := ⟨fun | 28 => 87 | n => n, fun | 27 => 33 | 3 => 3 | 4 => 4 | 25 => 100 | 53 => 119 | 0 => 0 | 5 => 5 | n => n, fun | 0 => 0 | n => n⟩
theorem Tryd.lays28 : Go.Proofs.Lays7.n28 Tryd.prog Tryd.lays28_ren := {
  mixed := by kernel_rfl
  f28 := Tryd.func87.trans (congrArg some (by kernel_rfl))
  t0 := Tryd.underlying0
  a0 := Tryd.isAgg0
  z0 := Tryd.sizeOf0
  v0 := Tryd.zeroValue0
  i0 := by kernel_rfl
  t3 := Tryd.underlying3
  a3 := Tryd.isAgg3
  z3 := Tryd.sizeOf3
  v3 := Tryd.zeroValue3
  i3 := by kernel_rfl
  t4 := Tryd.underlying4
  a4 := Tryd.isAgg4
  z4 := Tryd.sizeOf4
  v4 := Tryd.zeroValue4
  i4 := by kernel_rfl
  t5 := Tryd.underlying5
  a5 := Tryd.isAgg5
  z5 := Tryd.sizeOf5
  v5 := Tryd.zeroValue5
  i5 := by kernel_rfl
  t25 := Tryd.underlying100
  a25 := Tryd.isAgg100
  z25 := Tryd.sizeOf100
  v25 := Tryd.zeroValue100
  i25 := by kernel_rfl
  t27 := Tryd.underlying33
  a27 := Tryd.isAgg33
  z27 := Tryd.sizeOf33
  v27 := Tryd.zeroValue33
  i27 := by kernel_rfl
  t53 := Tryd.underlying119
  a53 := Tryd.isAgg119
  z53 := Tryd.sizeOf119
  v53 := Tryd.zeroValue119
  i53 := by kernel_rfl
  g0 := by kernel_rfl }
end Go.Proofs
end
section
namespace Go.Hx
open Go.Proofs Go.RowKit
set_option maxRecDepth 100000
theorem good87 : goodFn Tryd.prog 87 := ⟨Tryd.f87, Tryd.func87, by kernel_rfl, by kernel_rfl⟩
theorem tab32 : ∀ j, j < Lib.deBruijn32tab.length → seatTab 0 j = some (.int .u8 (Lib.deBruijn32tab.getD j 0)) := fun j hj => by
  unfold seatTab
  rw [show seatDat 0 = Lib.deBruijn32tab.map (fun k : Nat => Value.int .u8 (k : Int)) from rfl, List.getElem?_map, List.getElem?_eq_getElem hj, List.getD_eq_getElem?_getD, List.getElem?_eq_getElem hj]
  rfl
theorem cTz (s : AS) : HPure Tryd.prog 87 [pA s] (prOf [pI (lowB s)]) := by
  intro w imm us htab him hus
  match us, hus with
  | [u], ⟨hu, _⟩ =>
    obtain ⟨rfl, _⟩ := hu
    have h := Any7.bits_TrailingZeros32 Tryd.lays28 s.toNat s.isLt w fun _ j hj => by
      have hc := htab 0 j _ (tab32 j hj)
      unfold cellIn at hc
      cases hb : imm 0 with
      | none => rw [hb] at hc; cases hc
      | some ob =>
        rw [hb] at hc
        have hw := him 0 ob hb
        cases ob <;> simp at hc
        show w.cell? ⟨0, j, none⟩ = _
        simp [World.cell?, hw, hc]
    refine h.mono ?_
    rintro e w' ⟨rfl, rfl⟩
    exact ⟨_, imm, rfl, ⟨rfl, rfl⟩, fun _ _ => rfl, him, Below.refl _ _⟩
  | [], h => exact h.elim
  | _ :: _ :: _, ⟨_, h⟩ => exact h.elim
end Go.Hx
end
section
namespace Go.Hx
def cnt8 (b : Nat) : Nat := (List.range 8).countP fun i => b.testBit i
theorem bsz_le (s : AS) : bsz s ≤ 32 := by
  have := List.countP_le_length (p := fun i => s.getLsbD i) (l := List.range 32)
  rwa [List.length_range] at this
theorem membs_len {s0 : AS} (x : List Nat × AS) (h : x.1 ++ membs x.2 = membs s0) : x.1.length ≤ 32 := by
  have h1 := congrArg List.length h
  rw [List.length_append, ← bsz_membs s0] at h1
  have := bsz_le s0
  omega
theorem pred_v {s : AS} (h : s ≠ 0) : asI s - 1 = asI (s - 1) := by
  have h0 : s.toNat ≠ 0 := fun e => h (BitVec.eq_of_toNat_eq e)
  have := s.isLt
  have e1 : (s - 1).toNat = s.toNat - 1 := by
    rw [BitVec.toNat_sub]
    show (2 ^ 32 - 1 + s.toNat) % 2 ^ 32 = _
    omega
  unfold asI
  rw [e1]
  omega
theorem pred_pre {s : AS} (h : s ≠ 0) : (arith true .u32 (asI s - 1)).1 := by
  rw [pred_v h]
  have h1 := asI_nn (s - 1)
  have h2 := asI_lt (s - 1)
  simp only [arith, inR, loOf, hiOf]
  omega
theorem and_pred {s : AS} (h : s ≠ 0) : bitV .and .u32 (asI s) (asI s - 1) = asI (s &&& (s - 1)) := by rw [pred_v h, bAnd]
def cmpI (a b : Int) : Int := if a < b then -1 else if b < a then 1 else 0
def cmpS (a b : AS) : Int := if cmpI (bsz a) (bsz b) = 0 then cmpI (asI a) (asI b) else cmpI (bsz a) (bsz b)
end Go.Hx
end
section
namespace Go.Hx
open Go.Proofs
set_option maxRecDepth 100000
theorem good76 : goodFn Tryd.prog 76 := ⟨Tryd.f76, Tryd.func76, by kernel_rfl, by kernel_rfl⟩
theorem cMem (s0 : AS) : HPure Tryd.prog 76 [pA s0] (prOf [pP (il (membs s0))]) := by
  refine hpure_of (nt := 16) Trydok Tryd.func76 rfl rfl (Nat.le_of_ble_eq_true rfl) ?_; refine hw_seq ?_; refine hw_region (E := TrydE) Trydok ?_; refine rq rfl rfl rfl rfl rfl ?_; refine rg_nil ?_; show HW _ _ _ _ _
  refine hw_seq ?_; refine hw_region (E := TrydE) Trydok ?_; refine rq rfl rfl rfl rfl rfl ?_; refine rg_nil ?_; show HW _ _ _ _ _; refine hw_seq ?_; refine hw_block ?_
  refine hw_adopt 3 900 true 1 3 (lf iC []) (by decide) rfl (CoP.sl rfl (.inr rfl) (fun h => h) (fun i j hi _ => absurd hi (Nat.not_lt_zero i))) (.inr rfl) rfl ?_
  refine hw_loopK (ι := List Nat × AS) ⟨[], []⟩ ⟨trivial, trivial⟩ (fun x => ⟨[(3, some (.v (.one (.ref 900 x.1.length)))), (0, some (vA x.2))], [(900, some (.arr true 1 3 x.1.length (lf iC x.1)))]⟩) (fun x => x.1 ++ membs x.2 = membs s0) (fun x => x.2.toNat) (([], s0)) (rfl) ⟨⟨⟨_, rfl, (by first | exact CoR.refl _ | exact coi (by omega) | exact cob (by simp_all))⟩, ⟨_, rfl, (by first | exact CoR.refl _ | exact coi (by omega) | exact cob (by simp_all))⟩, trivial⟩, ⟨⟨_, rfl, CoO.refl _⟩, trivial⟩⟩ ?_
  rintro x hx
  have hlen := membs_len x hx
  (iterate 2 refine hw_seq ?_); refine hw_region (E := TrydE) Trydok ?_; (iterate 2 refine rq rfl rfl rfl rfl rfl ?_); refine rg_nil ?_; show HW _ _ _ _ _; refine hw_cond _ rfl (fun r0 => ?_) (fun r0 => ?_)
  · skip
    have h0 := r0
    have h0 := of_decide_eq_false (not_t h0)
    try simp only [Int.toNat_natCast] at h0
    have hne : x.2 ≠ 0 := fun e => h0 (by rw [e]; rfl)
    refine hw_skip ?_; show HW _ _ _ _ _; refine hw_seq ?_; refine hw_block ?_; refine hw_region (E := TrydE) Trydok ?_; (iterate 2 refine rq rfl rfl rfl rfl rfl ?_)
    refine rc rfl rfl rfl rfl rfl rfl good87 (cTz x.2) (CoL.refl _) rfl rfl ?_; refine rm 0 rfl rfl rfl rfl rfl rfl ?_; refine ra 1 true rfl rfl rfl rfl rfl rfl ?_; refine rq rfl rfl rfl rfl rfl ?_; refine rg_nil ?_
    show HW _ _ _ _ _; refine hw_region (E := TrydE) Trydok ?_; (iterate 2 refine rq rfl rfl rfl rfl rfl ?_); refine rq rfl rfl rfl rfl rfl ?_ (hp := (pred_pre hne)); (iterate 2 refine rq rfl rfl rfl rfl rfl ?_); refine rg_nil ?_
    refine ⟨(x.1 ++ [lowB x.2], x.2 &&& (x.2 - 1)), ?_, ?_, ?_⟩
    · show (x.1 ++ [lowB x.2]) ++ membs (x.2 &&& (x.2 - 1)) = membs s0
      rw [← hx, membs_low hne, List.append_assoc]; rfl
    · exact low_less hne
    · exact ⟨⟨⟨_, rfl, (ref_app rfl)⟩, ⟨_, rfl, (cor_i (and_pred hne))⟩, trivial⟩, ⟨⟨_, rfl, (arr_app1 rfl (CoP.refl _))⟩, trivial⟩⟩
  · skip
    have h0 := r0
    have h0 := of_decide_eq_true (not_f h0)
    try simp only [Int.toNat_natCast] at h0
    have hz : x.2 = 0 := asI_inj.1 h0
    refine hw_exit ?_; show HW _ _ _ _ _; refine hw_seq ?_; refine hw_region (E := TrydE) Trydok ?_; (iterate 2 refine rq rfl rfl rfl rfl rfl ?_); refine rg_nil ?_; refine hw_freeze 2 rfl rfl rfl ?_; show HW _ _ _ _ _
    refine hw_ret ?_; refine ⟨.inr rfl, ?_⟩
    exact ⟨_, _, _, _, rfl, (by (repeat' apply And.intro) <;> first | trivial | exact Nat.le_of_ble_eq_true rfl | rfl), rfl, (by (repeat' apply And.intro) <;> first | trivial | exact Nat.le_of_ble_eq_true rfl | rfl), ⟨CoC.one (CoP.of_eq (by rw [hz, membs_zero, List.append_nil] at hx; rw [← hx]; rfl)), trivial⟩⟩
end Go.Hx
end
section
namespace Go.Hx
def insK (l : List AS) (k : Nat) (r : AS) : List AS := l.take k ++ r :: l.drop k
def jC : Int → Nat → PV := fun n _ => .raw (.int .i64 n)
def orF (l : List Int) : Int := (l.find? fun x => decide (x ≠ 0)).getD 0
theorem co_lit2 {α : Type} [Inhabited α] {cl : Bool} {c : α → Nat → PV} {x y : α} {f : Nat → Nat → PV} (h0 : CoP (f 0 0) (c x 0)) (h1 : CoP (f 1 0) (c y 0)) : CoP (.sl 2 1 cl f) (psl 1 c [x, y]) :=
  CoP.sl rfl (.inl rfl) (fun h => by cases h) fun i j hi hj => by
    obtain rfl : j = 0 := by omega
    rcases (by omega : i = 0 ∨ i = 1) with rfl | rfl
    · exact h0
    · exact h1
theorem app_end {α : Type} [Inhabited α] {wr wr' : Bool} {e : TypeId} {c : α → Nat → PV} {l : List α} {x : α} {g : Nat → Nat → PV} (hg : CoP (g 0 0) (c x 0)) (hw : wr' = true → wr = true := by exact fun h => h) :
    CoO (.arr wr 1 e (l.length + 1) (appF l.length (lf c l) g)) (.arr wr' 1 e (l.length + 1) (lf c (l ++ [x]))) := by
  have h := arr_app1 (wr := wr) (wr' := wr') (e := e) (l := l) (l' := l ++ [x]) (g := g) rfl hg hw
  rwa [show (l ++ [x]).length = l.length + 1 by simp] at h
theorem arr_len {α : Type} [Inhabited α] {wr wr' : Bool} {s n m : Nat} {e : TypeId} {c : α → Nat → PV} {l l' : List α} (h : l' = l) (hn : n = m) (hw : wr' = true → wr = true := by exact fun h => h) : CoO (.arr wr s e n (lf c l)) (.arr wr' s e m (lf c l')) := by
  subst h hn
  exact ⟨hw, rfl, rfl, rfl, fun _ _ _ _ => CoP.refl _⟩
end Go.Hx
end
section
namespace Go.Hx
open Go.Proofs
set_option maxRecDepth 100000
theorem good73 : goodFn Tryd.prog 73 := ⟨Tryd.f73, Tryd.func73, by kernel_rfl, by kernel_rfl⟩
theorem cNanI (a : Int) : HPure Tryd.prog 73 [pI a] (prOf [pB false]) := by
  refine hpure_of (nt := 6) Trydok Tryd.func73 rfl rfl (Nat.le_of_ble_eq_true rfl) ?_; refine hw_seq ?_; refine hw_region (E := TrydE) Trydok ?_; refine rq rfl rfl rfl rfl rfl ?_; refine rg_nil ?_; show HW _ _ _ _ _
  refine hw_seq ?_; refine hw_region (E := TrydE) Trydok ?_; (iterate 4 refine rq rfl rfl rfl rfl rfl ?_); refine rg_nil ?_; show HW _ _ _ _ _; refine hw_ret ?_; refine ⟨.inr rfl, ?_⟩
  exact ⟨_, _, _, _, rfl, (by (repeat' apply And.intro) <;> first | trivial | exact Nat.le_of_ble_eq_true rfl | rfl), rfl, (by (repeat' apply And.intro) <;> first | trivial | exact Nat.le_of_ble_eq_true rfl | rfl), ⟨ccb (by simp), trivial⟩⟩
theorem good61 : goodFn Tryd.prog 61 := ⟨Tryd.f61, Tryd.func61, by kernel_rfl, by kernel_rfl⟩
theorem cCmpI (a b : Int) : HPure Tryd.prog 61 [pI a, pI b] (prOf [pI (cmpI a b)]) := by
  refine hpure_of (nt := 20) Trydok Tryd.func61 rfl rfl (Nat.le_of_ble_eq_true rfl) ?_; refine hw_seq ?_; refine hw_region (E := TrydE) Trydok ?_; refine rq rfl rfl rfl rfl rfl ?_; refine rg_nil ?_; show HW _ _ _ _ _
  refine hw_seq ?_; refine hw_region (E := TrydE) Trydok ?_; refine rq rfl rfl rfl rfl rfl ?_; refine rc rfl rfl rfl rfl rfl rfl good73 (cNanI _) (CoL.refl _) rfl rfl ?_; refine rq rfl rfl rfl rfl rfl ?_; refine rg_nil ?_
  show HW _ _ _ _ _; refine hw_seq ?_; refine hw_region (E := TrydE) Trydok ?_; refine rq rfl rfl rfl rfl rfl ?_; refine rc rfl rfl rfl rfl rfl rfl good73 (cNanI _) (CoL.refl _) rfl rfl ?_; refine rq rfl rfl rfl rfl rfl ?_
  refine rg_nil ?_; show HW _ _ _ _ _; (iterate 2 refine hw_seq ?_); refine hw_region (E := TrydE) Trydok ?_; refine rq rfl rfl rfl rfl rfl ?_; refine rg_nil ?_; show HW _ _ _ _ _
  refine hw_cond _ rfl (fun e => by cases e) (fun _ => ?_); refine hw_skip ?_; show HW _ _ _ _ _; (iterate 2 refine hw_seq ?_); refine hw_region (E := TrydE) Trydok ?_; refine rq rfl rfl rfl rfl rfl ?_; refine rg_nil ?_
  show HW _ _ _ _ _; refine hw_cond _ rfl (fun e => by cases e) (fun _ => ?_); refine hw_skip ?_; show HW _ _ _ _ _; (iterate 2 refine hw_seq ?_); refine hw_region (E := TrydE) Trydok ?_; (iterate 3 refine rq rfl rfl rfl rfl rfl ?_)
  refine rg_nil ?_; show HW _ _ _ _ _; refine hw_cond _ rfl (fun r0 => ?_) (fun r0 => ?_)
  · skip
    have h0 := r0
    have h0 := of_decide_eq_true h0
    try simp only [Int.toNat_natCast] at h0
    refine hw_seq ?_; refine hw_region (E := TrydE) Trydok ?_; refine rq rfl rfl rfl rfl rfl ?_; refine rg_nil ?_; show HW _ _ _ _ _; refine hw_ret ?_; refine ⟨.inr rfl, ?_⟩
    exact ⟨_, _, _, _, rfl, (by (repeat' apply And.intro) <;> first | trivial | exact Nat.le_of_ble_eq_true rfl | rfl), rfl, (by (repeat' apply And.intro) <;> first | trivial | exact Nat.le_of_ble_eq_true rfl | rfl), ⟨cci (by unfold cmpI; first | (rw [if_pos (by omega)]) | (rw [if_neg (by omega), if_pos (by omega)]) | (rw [if_neg (by omega), if_neg (by omega)])), trivial⟩⟩
  · skip
    have h0 := r0
    have h0 := of_decide_eq_false h0
    try simp only [Int.toNat_natCast] at h0
    refine hw_skip ?_; show HW _ _ _ _ _; (iterate 2 refine hw_seq ?_); refine hw_region (E := TrydE) Trydok ?_; (iterate 3 refine rq rfl rfl rfl rfl rfl ?_); refine rg_nil ?_; show HW _ _ _ _ _
    refine hw_cond _ rfl (fun r1 => ?_) (fun r1 => ?_)
    · skip
      have h1 := r1
      have h1 := of_decide_eq_true h1
      try simp only [Int.toNat_natCast] at h1
      refine hw_seq ?_; refine hw_region (E := TrydE) Trydok ?_; refine rq rfl rfl rfl rfl rfl ?_; refine rg_nil ?_; show HW _ _ _ _ _; refine hw_ret ?_; refine ⟨.inr rfl, ?_⟩
      exact ⟨_, _, _, _, rfl, (by (repeat' apply And.intro) <;> first | trivial | exact Nat.le_of_ble_eq_true rfl | rfl), rfl, (by (repeat' apply And.intro) <;> first | trivial | exact Nat.le_of_ble_eq_true rfl | rfl), ⟨cci (by unfold cmpI; first | (rw [if_pos (by omega)]) | (rw [if_neg (by omega), if_pos (by omega)]) | (rw [if_neg (by omega), if_neg (by omega)])), trivial⟩⟩
    · skip
      have h1 := r1
      have h1 := of_decide_eq_false h1
      try simp only [Int.toNat_natCast] at h1
      refine hw_skip ?_; show HW _ _ _ _ _; refine hw_seq ?_; refine hw_region (E := TrydE) Trydok ?_; refine rq rfl rfl rfl rfl rfl ?_; refine rg_nil ?_; show HW _ _ _ _ _; refine hw_ret ?_; refine ⟨.inr rfl, ?_⟩
      exact ⟨_, _, _, _, rfl, (by (repeat' apply And.intro) <;> first | trivial | exact Nat.le_of_ble_eq_true rfl | rfl), rfl, (by (repeat' apply And.intro) <;> first | trivial | exact Nat.le_of_ble_eq_true rfl | rfl), ⟨cci (by unfold cmpI; first | (rw [if_pos (by omega)]) | (rw [if_neg (by omega), if_pos (by omega)]) | (rw [if_neg (by omega), if_neg (by omega)])), trivial⟩⟩
end Go.Hx
end
section
namespace Go.Hx
abbrev pZ (r : Rw) : PC := .one (zl r)
abbrev pR (l : List Rw) : PC := .one (rl l)
abbrev pT (n : Int) (l : List Rw) : PC := .agg [.raw (.int .i64 n), rl l]
theorem ltR_at : ∀ {a b : Rw} {i : Nat}, i < a.length → i < b.length → (∀ j, j < i → a.getD j default = b.getD j default) → ¬ a.getD i default = b.getD i default → ltZ a b = decide (a.getD i default < b.getD i default)
  | [], _, _, h, _, _, _ => by simp at h
  | _ :: _, [], _, _, h, _, _ => by simp at h
  | x :: a, y :: b, 0, _, _, _, hn => by
    have : ¬ x = y := hn
    unfold ltZ
    rw [if_neg this]
    rfl
  | x :: a, y :: b, i + 1, ha, hb, h, hn => by
    have e : x = y := h 0 (by omega)
    unfold ltZ
    rw [if_pos e]
    exact ltR_at (by simpa using ha) (by simpa using hb) (fun j hj => h (j + 1) (by omega)) hn
theorem ltR_end : ∀ {a b : Rw}, (∀ j, j < a.length → j < b.length → a.getD j default = b.getD j default) → ltZ a b = decide (a.length < b.length)
  | [], [], _ => rfl
  | [], _ :: _, _ => by simp [ltZ]
  | _ :: _, [], _ => by simp [ltZ]
  | x :: a, y :: b, h => by
    have e : x = y := h 0 (by simp) (by simp)
    unfold ltZ
    rw [if_pos e, ltR_end fun j h1 h2 => h (j + 1) (by simpa using h1) (by simpa using h2)]
    simp
def cmpZ (a b : Rw) : Int := if a = b then 0 else if ltZ a b = true then -1 else 1
theorem cmpZ_at {a b : Rw} {i : Nat} (ha : i < a.length) (hb : i < b.length) (h : ∀ j, j < i → a.getD j default = b.getD j default) (hn : ¬ cmpI (a.getD i default) (b.getD i default) = 0) : cmpI (a.getD i default) (b.getD i default) = cmpZ a b := by
  have hne : ¬ a.getD i default = b.getD i default := fun e => hn (by unfold cmpI; rw [if_neg (by omega), if_neg (by omega)])
  unfold cmpI cmpZ
  rw [if_neg (fun e : a = b => hne (by rw [e])), ltR_at ha hb h hne]
  simp only [decide_eq_true_eq]
  split
  · rfl
  · rw [if_pos (by omega)]
theorem cmpI_0 {a b : Int} (h : cmpI a b = 0) : a = b := by
  unfold cmpI at h
  split at h
  · omega
  · split at h <;> omega
theorem cmpZ_gt {a b : Rw} {i : Nat} (ha : i < a.length) (hb : ¬ i < b.length) (h : ∀ j, j < i → a.getD j default = b.getD j default) : (1 : Int) = cmpZ a b := by
  unfold cmpZ
  rw [if_neg (fun e : a = b => by subst e; omega), ltR_end fun j h1 h2 => h j (by omega), if_neg (by simp only [decide_eq_true_eq]; omega)]
theorem cmpZ_lt {a b : Rw} (hl : a.length < b.length) (h : ∀ j, j < a.length → a.getD j default = b.getD j default) : (-1 : Int) = cmpZ a b := by
  unfold cmpZ
  rw [if_neg (fun e : a = b => by subst e; omega), ltR_end fun j h1 h2 => h j h1, if_pos (by simp only [decide_eq_true_eq]; omega)]
theorem cmpZ_eq {a b : Rw} (hl : a.length ≤ b.length) (hl2 : ¬ a.length < b.length) (h : ∀ j, j < a.length → a.getD j default = b.getD j default) : (0 : Int) = cmpZ a b := by
  unfold cmpZ
  rw [if_pos (list_eq (by omega) h)]
theorem rw_eq {a b : Rw} (h : a.length = b.length) (hI : ∀ j, j < a.length → decide (a.getD j default = b.getD j default) = true) : a = b := list_eq h fun j hj => of_decide_eq_true (hI j hj)
theorem len_le {a b : Nat} (h : ∀ j, j < a → j < b) : a ≤ b := Nat.le_of_not_lt fun e => Nat.lt_irrefl _ (h b e)
def agrZ (a b : Rw) (s : AS) : Bool := decide (∀ i : Nat, i < a.length → (hasI s (i : Int) = true → a.getD i default = b.getD i default))
theorem agrZ_f {a b : Rw} {s : AS} {i : Nat} (hi : i < a.length) (h : hasI s (i : Int) = true) (hn : ¬ a.getD i default = b.getD i default) : agrZ a b s = false := decide_eq_false fun e => hn (e i hi h)
theorem agrZ_t {a b : Rw} {s : AS} (h : ∀ i : Nat, i < a.length → (hasI s (i : Int) = true → a.getD i default = b.getD i default)) : agrZ a b s = true := decide_eq_true h
theorem has_n {s : AS} {i : Nat} (h : i < 32) : bitV .and .u32 ((asI s).fdiv (2 ^ (min i 32))) 1 = 1 ↔ hasI s (i : Int) = true := by
  rw [← has_v (s := s) (i := (i : Int)) (by omega) (by omega), decide_eq_true_iff]
  rfl
def tokR (n : Int) (l : List Rw) (i : Nat) : Bool := decide (((l.getD i default).length : Int) = n) && !(l.getD i default).any (fun x => decide (x < 0)) && (decide (i = 0) || ltZ (l.getD (i - 1) default) (l.getD i default))
def tok (n : Int) (l : List Rw) : Bool := decide (0 ≤ n ∧ n ≤ 16 ∧ l.length ≤ 256) && decide (∀ i, i < l.length → tokR n l i = true)
theorem tok_t {n : Int} {l : List Rw} (h0 : 0 ≤ n) (h1 : n ≤ 16) (h2 : l.length ≤ 256) (h : ∀ i, i < l.length → tokR n l i = true) : tok n l = true := by
  unfold tok
  rw [decide_eq_true (show 0 ≤ n ∧ n ≤ 16 ∧ l.length ≤ 256 from ⟨h0, h1, h2⟩), decide_eq_true h]
  rfl
theorem tok_f0 {n : Int} {l : List Rw} (h : ¬ (0 ≤ n ∧ n ≤ 16 ∧ l.length ≤ 256)) : tok n l = false := by
  unfold tok
  rw [decide_eq_false h]
  rfl
theorem tok_f {n : Int} {l : List Rw} {i : Nat} (hi : i < l.length) (h : tokR n l i = false) : tok n l = false := by
  unfold tok
  rw [decide_eq_false (fun e : ∀ i, i < l.length → tokR n l i = true => by rw [e i hi] at h; cases h), Bool.and_false]
def mixZ (a b : Rw) (s : AS) : Rw := (List.range b.length).map fun (i : Nat) => if hasI s (i : Int) = true then a.getD i default else b.getD i default
end Go.Hx
end
