/- A part of the proof: lemmas for the theorem of this claim, merged by a program of ours out of LyTz, TzW, Cs8, V6, Cs9, V7, Ch2. -/
import Derived.Shelf.Lays7
import Derived.Shelf.Spec.TrailingZeros
import Derived.Test.YtididbpiikfaiaaDoorProg
import Derived.Test.YtididbpiikfaiaaDoorC19
import Derived.Test.YtididbpiikfaiaaDoorC20
set_option linter.all false
section
namespace Go.Proofs
open Go.Shelf
def Tryd.lays28_ren : Go.Shelf.Ren := ⟨fun | 28 => 87 | n => n, fun | 27 => 33 | 3 => 3 | 4 => 4 | 25 => 100 | 53 => 119 | 0 => 0 | 5 => 5 | n => n, fun | 0 => 0 | n => n⟩
theorem Tryd.lays28 : Go.Proofs.Lays7.n28 Tryd.prog Tryd.lays28_ren := {
  mixed := by kernel_rfl
  f28 := Tryd.func87.trans (congrArg some (by kernel_rfl))
  t0 := Tryd.underlying0
  a0 := Tryd.isAgg0
  z0 := Tryd.sizeOf0
  v0 := Tryd.zeroValue0
  i0 := by kernel_rfl
  t3 := Tryd.underlying3
  a3 := Tryd.isAgg3
  z3 := Tryd.sizeOf3
  v3 := Tryd.zeroValue3
  i3 := by kernel_rfl
  t4 := Tryd.underlying4
  a4 := Tryd.isAgg4
  z4 := Tryd.sizeOf4
  v4 := Tryd.zeroValue4
  i4 := by kernel_rfl
  t5 := Tryd.underlying5
  a5 := Tryd.isAgg5
  z5 := Tryd.sizeOf5
  v5 := Tryd.zeroValue5
  i5 := by kernel_rfl
  t25 := Tryd.underlying100
  a25 := Tryd.isAgg100
  z25 := Tryd.sizeOf100
  v25 := Tryd.zeroValue100
  i25 := by kernel_rfl
  t27 := Tryd.underlying33
  a27 := Tryd.isAgg33
  z27 := Tryd.sizeOf33
  v27 := Tryd.zeroValue33
  i27 := by kernel_rfl
  t53 := Tryd.underlying119
  a53 := Tryd.isAgg119
  z53 := Tryd.sizeOf119
  v53 := Tryd.zeroValue119
  i53 := by kernel_rfl
  g0 := by kernel_rfl }
end Go.Proofs
end
section
namespace Go.Hx
open Go.Proofs Go.RowKit
set_option maxRecDepth 100000
theorem good87 : goodFn Tryd.prog 87 := ⟨Tryd.f87, Tryd.func87, by kernel_rfl, by kernel_rfl⟩
theorem tab32 : ∀ j, j < Lib.deBruijn32tab.length → seatTab 0 j = some (.int .u8 (Lib.deBruijn32tab.getD j 0)) := fun j hj => by
  unfold seatTab
  rw [show seatDat 0 = Lib.deBruijn32tab.map (fun k : Nat => Value.int .u8 (k : Int)) from rfl, List.getElem?_map, List.getElem?_eq_getElem hj, List.getD_eq_getElem?_getD, List.getElem?_eq_getElem hj]
  rfl
theorem cTz (s : AS) : HPure Tryd.prog 87 [pA s] (prOf [pI (lowB s)]) := by
  intro w imm us htab him hus
  match us, hus with
  | [u], ⟨hu, _⟩ =>
    obtain ⟨rfl, _⟩ := hu
    have h := Any7.bits_TrailingZeros32 Tryd.lays28 s.toNat s.isLt w fun _ j hj => by
      have hc := htab 0 j _ (tab32 j hj)
      unfold cellIn at hc
      cases hb : imm 0 with
      | none => rw [hb] at hc; cases hc
      | some ob =>
        rw [hb] at hc
        have hw := him 0 ob hb
        cases ob <;> simp at hc
        show w.cell? ⟨0, j, none⟩ = _
        simp [World.cell?, hw, hc]
    refine h.mono ?_
    rintro e w' ⟨rfl, rfl⟩
    exact ⟨_, imm, rfl, ⟨rfl, rfl⟩, fun _ _ => rfl, him, Below.refl _ _⟩
  | [], h => exact h.elim
  | _ :: _ :: _, ⟨_, h⟩ => exact h.elim
end Go.Hx
end
section
namespace Go.Hx
def cnt8 (b : Nat) : Nat := (List.range 8).countP fun i => b.testBit i
theorem countP_range_add (p : Nat → Bool) (a b : Nat) : (List.range (a + b)).countP p = (List.range a).countP p + (List.range b).countP fun i => p (a + i) := by
  rw [List.range_add, List.countP_append, List.countP_map]
  rfl
theorem byte_bit {n k j : Nat} (hj : j < 8) : (n / 2 ^ k % 256).testBit j = n.testBit (k + j) := by
  rw [show (256 : Nat) = 2 ^ 8 from rfl, Nat.testBit_mod_two_pow, Nat.testBit_div_two_pow, Nat.add_comm]
  simp [hj]
theorem bytes4 (n : Nat) (hn : n < 2 ^ 32) : (List.range (8 + (8 + (8 + 8)))).countP (fun i => n.testBit i) = cnt8 (n / 2 ^ 24) + cnt8 (n / 2 ^ 16 % 256) + cnt8 (n / 2 ^ 8 % 256) + cnt8 (n % 256) := by
  have h : ∀ k, (List.range 8).countP (fun i => n.testBit (k + i)) = cnt8 (n / 2 ^ k % 256) := fun k => by
    unfold cnt8
    apply List.countP_congr
    intro j hj
    rw [byte_bit (List.mem_range.1 hj)]
  have h3 : n / 2 ^ 24 % 256 = n / 2 ^ 24 := Nat.mod_eq_of_lt (by omega)
  have h0 := h 0
  simp only [Nat.zero_add, Nat.pow_zero, Nat.div_one] at h0
  rw [countP_range_add, countP_range_add, countP_range_add, h0]
  have e2 := h 8
  have e3 := h 16
  have e4 := h 24
  rw [h3] at e4
  simp only [← Nat.add_assoc] at *
  simp only [Nat.reduceAdd] at *
  rw [e2, e3, e4]
  omega
theorem bsz_bytes (s : AS) : bsz s = cnt8 (s.toNat / 2 ^ 24) + cnt8 (s.toNat / 2 ^ 16 % 256) + cnt8 (s.toNat / 2 ^ 8 % 256) + cnt8 (s.toNat % 256) := bytes4 s.toNat s.isLt
theorem cnt8_le (b : Nat) : cnt8 b ≤ 8 := by
  have := List.countP_le_length (p := fun i => b.testBit i) (l := List.range 8)
  rwa [List.length_range] at this
theorem byteN (s : AS) (k : Nat) (hk : k ≤ 32) : ((asI s).fdiv (2 ^ (min k 32))).toNat = s.toNat / 2 ^ k := by
  rw [bShr]
  show (((s >>> k).toNat : Nat) : Int).toNat = _
  rw [Int.toNat_natCast, BitVec.toNat_ushiftRight, Nat.shiftRight_eq_div_pow]
theorem byteM (s : AS) (k : Nat) (hk : k ≤ 32) : (bitV .and .u32 ((asI s).fdiv (2 ^ (min k 32))) 255).toNat = s.toNat / 2 ^ k % 256 := by
  rw [bShr, show (255 : Int) = asI 255 from rfl, bAnd]
  show (((s >>> k &&& 255).toNat : Nat) : Int).toNat = _
  rw [Int.toNat_natCast, BitVec.toNat_and, BitVec.toNat_ushiftRight, Nat.shiftRight_eq_div_pow, show (255 : AS).toNat = 2 ^ 8 - 1 from rfl, Nat.and_two_pow_sub_one_eq_mod]
theorem byteL (s : AS) : (bitV .and .u32 (asI s) 255).toNat = s.toNat % 256 := by
  rw [show (255 : Int) = asI 255 from rfl, bAnd]
  show (((s &&& 255).toNat : Nat) : Int).toNat = _
  rw [Int.toNat_natCast, BitVec.toNat_and, show (255 : AS).toNat = 2 ^ 8 - 1 from rfl, Nat.and_two_pow_sub_one_eq_mod]
theorem and_nn (a b : Int) : 0 ≤ bitV .and .u32 a b := by
  show 0 ≤ IntKind.wrap .u32 _
  rw [wrap_u32 (Int.natCast_nonneg _) (by have := (BitVec.ofInt 32 a &&& BitVec.ofInt 32 b).isLt; show ((BitVec.ofInt 32 a &&& BitVec.ofInt 32 b).toNat : Int) < _; omega)]
  exact Int.natCast_nonneg _
theorem fdiv_nn (s : AS) (k : Nat) : 0 ≤ (asI s).fdiv (2 ^ (min k 32)) := by rw [bShr]; exact asI_nn _
theorem ix24 {X : ByteArray} (s : AS) (hX : (256 : Int) ≤ X.size) : 0 ≤ (asI s).fdiv (2 ^ (min 24 32)) ∧ (asI s).fdiv (2 ^ (min 24 32)) < X.size := by
  have h1 := fdiv_nn s 24
  have h2 := byteN s 24 (by omega)
  have := s.isLt
  exact ⟨h1, by omega⟩
theorem ixM {X : ByteArray} (s : AS) (k : Nat) (hk : k ≤ 32) (hX : (256 : Int) ≤ X.size) : 0 ≤ bitV .and .u32 ((asI s).fdiv (2 ^ (min k 32))) 255 ∧ bitV .and .u32 ((asI s).fdiv (2 ^ (min k 32))) 255 < X.size := by
  have h1 := and_nn ((asI s).fdiv (2 ^ (min k 32))) 255
  have h2 := byteM s k hk
  exact ⟨h1, by omega⟩
theorem ixL {X : ByteArray} (s : AS) (hX : (256 : Int) ≤ X.size) : 0 ≤ bitV .and .u32 (asI s) 255 ∧ bitV .and .u32 (asI s) 255 < X.size := by
  have h1 := and_nn (asI s) 255
  have h2 := byteL s
  exact ⟨h1, by omega⟩
theorem wrap_u8 {n : Int} (h0 : 0 ≤ n) (h1 : n < 256) : IntKind.wrap .u8 n = n := wrap_inR (by simp only [inR, loOf, hiOf]; omega)
theorem wrap_i64s {n : Int} (h0 : 0 ≤ n) (h1 : n < 256) : IntKind.wrap .i64 n = n := wrap_inR (by simp only [inR, loOf, hiOf]; omega)
theorem ones_v {X : ByteArray} {s : AS} {i0 i1 i2 i3 : Nat} (hX : ∀ b, b < 256 → byteAt X b = (cnt8 b : Int)) (h0 : i0 = s.toNat / 2 ^ 24) (h1 : i1 = s.toNat / 2 ^ 16 % 256) (h2 : i2 = s.toNat / 2 ^ 8 % 256) (h3 : i3 = s.toNat % 256) :
    IntKind.wrap .i64 (IntKind.wrap .u8 (IntKind.wrap .u8 (IntKind.wrap .u8 (byteAt X i0 + byteAt X i1) + byteAt X i2) + byteAt X i3)) = (bsz s : Int) := by
  have := s.isLt
  subst h0 h1 h2 h3
  rw [hX _ (by omega), hX _ (by omega), hX _ (by omega), hX _ (by omega)]
  have a0 := cnt8_le (s.toNat / 2 ^ 24)
  have a1 := cnt8_le (s.toNat / 2 ^ 16 % 256)
  have a2 := cnt8_le (s.toNat / 2 ^ 8 % 256)
  have a3 := cnt8_le (s.toNat % 256)
  rw [bsz_bytes]
  generalize cnt8 (s.toNat / 2 ^ 24) = c0 at *
  generalize cnt8 (s.toNat / 2 ^ 16 % 256) = c1 at *
  generalize cnt8 (s.toNat / 2 ^ 8 % 256) = c2 at *
  generalize cnt8 (s.toNat % 256) = c3 at *
  rw [wrap_u8 (n := c0 + c1) (by omega) (by omega), wrap_u8 (n := c0 + c1 + c2) (by omega) (by omega), wrap_u8 (n := c0 + c1 + c2 + c3) (by omega) (by omega), wrap_i64s (n := c0 + c1 + c2 + c3) (by omega) (by omega)]
  omega
theorem bsz_le (s : AS) : bsz s ≤ 32 := by
  have := List.countP_le_length (p := fun i => s.getLsbD i) (l := List.range 32)
  rwa [List.length_range] at this
theorem membs_len {s0 : AS} (x : List Nat × AS) (h : x.1 ++ membs x.2 = membs s0) : x.1.length ≤ 32 := by
  have h1 := congrArg List.length h
  rw [List.length_append, ← bsz_membs s0] at h1
  have := bsz_le s0
  omega
theorem pred_v {s : AS} (h : s ≠ 0) : asI s - 1 = asI (s - 1) := by
  have h0 : s.toNat ≠ 0 := fun e => h (BitVec.eq_of_toNat_eq e)
  have := s.isLt
  have e1 : (s - 1).toNat = s.toNat - 1 := by
    rw [BitVec.toNat_sub]
    show (2 ^ 32 - 1 + s.toNat) % 2 ^ 32 = _
    omega
  unfold asI
  rw [e1]
  omega
theorem pred_pre {s : AS} (h : s ≠ 0) : (arith true .u32 (asI s - 1)).1 := by
  rw [pred_v h]
  have h1 := asI_nn (s - 1)
  have h2 := asI_lt (s - 1)
  simp only [arith, inR, loOf, hiOf]
  omega
theorem and_pred {s : AS} (h : s ≠ 0) : bitV .and .u32 (asI s) (asI s - 1) = asI (s &&& (s - 1)) := by rw [pred_v h, bAnd]
def cmpI (a b : Int) : Int := if a < b then -1 else if b < a then 1 else 0
def cmpS (a b : AS) : Int := if cmpI (bsz a) (bsz b) = 0 then cmpI (asI a) (asI b) else cmpI (bsz a) (bsz b)
end Go.Hx
end
section
namespace Go.Hx
open Go.Proofs
set_option maxRecDepth 100000
theorem good76 : goodFn Tryd.prog 76 := ⟨Tryd.f76, Tryd.func76, by kernel_rfl, by kernel_rfl⟩
theorem cMem (s0 : AS) : HPure Tryd.prog 76 [pA s0] (prOf [pP (il (membs s0))]) := by
  refine hpure_of (nt := 16) Trydok Tryd.func76 rfl rfl (Nat.le_of_ble_eq_true rfl) ?_; refine hw_seq ?_; refine hw_region (E := TrydE) Trydok ?_; refine rq rfl rfl rfl rfl rfl ?_; refine rg_nil ?_; show HW _ _ _ _ _
  refine hw_seq ?_; refine hw_region (E := TrydE) Trydok ?_; refine rq rfl rfl rfl rfl rfl ?_; refine rg_nil ?_; show HW _ _ _ _ _; refine hw_seq ?_; refine hw_block ?_
  refine hw_adopt 3 900 true 1 3 (lf iC []) (by decide) rfl (CoP.sl rfl (.inr rfl) (fun h => h) (fun i j hi _ => absurd hi (Nat.not_lt_zero i))) (.inr rfl) rfl ?_
  refine hw_loopK (ι := List Nat × AS) ⟨[], []⟩ ⟨trivial, trivial⟩ (fun x => ⟨[(3, some (.v (.one (.ref 900 x.1.length)))), (0, some (vA x.2))], [(900, some (.arr true 1 3 x.1.length (lf iC x.1)))]⟩) (fun x => x.1 ++ membs x.2 = membs s0) (fun x => x.2.toNat) (([], s0)) (rfl) ⟨⟨⟨_, rfl, (by first | exact CoR.refl _ | exact coi (by omega) | exact cob (by simp_all))⟩, ⟨_, rfl, (by first | exact CoR.refl _ | exact coi (by omega) | exact cob (by simp_all))⟩, trivial⟩, ⟨⟨_, rfl, CoO.refl _⟩, trivial⟩⟩ ?_
  rintro x hx
  have hlen := membs_len x hx
  (iterate 2 refine hw_seq ?_); refine hw_region (E := TrydE) Trydok ?_; (iterate 2 refine rq rfl rfl rfl rfl rfl ?_); refine rg_nil ?_; show HW _ _ _ _ _; refine hw_cond _ rfl (fun r0 => ?_) (fun r0 => ?_)
  · skip
    have h0 := r0
    have h0 := of_decide_eq_false (not_t h0)
    try simp only [Int.toNat_natCast] at h0
    have hne : x.2 ≠ 0 := fun e => h0 (by rw [e]; rfl)
    refine hw_skip ?_; show HW _ _ _ _ _; refine hw_seq ?_; refine hw_block ?_; refine hw_region (E := TrydE) Trydok ?_; (iterate 2 refine rq rfl rfl rfl rfl rfl ?_)
    refine rc rfl rfl rfl rfl rfl rfl good87 (cTz x.2) (CoL.refl _) rfl rfl ?_; refine rm 0 rfl rfl rfl rfl rfl rfl ?_; refine ra 1 true rfl rfl rfl rfl rfl rfl ?_; refine rq rfl rfl rfl rfl rfl ?_; refine rg_nil ?_
    show HW _ _ _ _ _; refine hw_region (E := TrydE) Trydok ?_; (iterate 2 refine rq rfl rfl rfl rfl rfl ?_); refine rq rfl rfl rfl rfl rfl ?_ (hp := (pred_pre hne)); (iterate 2 refine rq rfl rfl rfl rfl rfl ?_); refine rg_nil ?_
    refine ⟨(x.1 ++ [lowB x.2], x.2 &&& (x.2 - 1)), ?_, ?_, ?_⟩
    · show (x.1 ++ [lowB x.2]) ++ membs (x.2 &&& (x.2 - 1)) = membs s0
      rw [← hx, membs_low hne, List.append_assoc]; rfl
    · exact low_less hne
    · exact ⟨⟨⟨_, rfl, (ref_app rfl)⟩, ⟨_, rfl, (cor_i (and_pred hne))⟩, trivial⟩, ⟨⟨_, rfl, (arr_app1 rfl (CoP.refl _))⟩, trivial⟩⟩
  · skip
    have h0 := r0
    have h0 := of_decide_eq_true (not_f h0)
    try simp only [Int.toNat_natCast] at h0
    have hz : x.2 = 0 := asI_inj.1 h0
    refine hw_exit ?_; show HW _ _ _ _ _; refine hw_seq ?_; refine hw_region (E := TrydE) Trydok ?_; (iterate 2 refine rq rfl rfl rfl rfl rfl ?_); refine rg_nil ?_; refine hw_freeze 2 rfl rfl rfl ?_; show HW _ _ _ _ _
    refine hw_ret ?_; refine ⟨.inr rfl, ?_⟩
    exact ⟨_, _, _, _, rfl, (by (repeat' apply And.intro) <;> first | trivial | exact Nat.le_of_ble_eq_true rfl | rfl), rfl, (by (repeat' apply And.intro) <;> first | trivial | exact Nat.le_of_ble_eq_true rfl | rfl), ⟨CoC.one (CoP.of_eq (by rw [hz, membs_zero, List.append_nil] at hx; rw [← hx]; rfl)), trivial⟩⟩
end Go.Hx
end
section
namespace Go.Hx
def insK (l : List AS) (k : Nat) (r : AS) : List AS := l.take k ++ r :: l.drop k
theorem insK_len {l : List AS} {k : Nat} {r : AS} (h : k ≤ l.length) : (insK l k r).length = l.length + 1 := by simp [insK]; omega
theorem insK_end {l : List AS} {r : AS} : insK l l.length r = l ++ [r] := by simp [insK]
theorem insK_get {l : List AS} {k i : Nat} {r : AS} (h : k ≤ l.length) : (insK l k r)[i]? = if i < k then l[i]? else if i = k then some r else l[i - 1]? := by
  simp only [insK]
  by_cases h1 : i < k
  · rw [if_pos h1, List.getElem?_append_left (by simp; omega), List.getElem?_take, if_pos h1]
  · rw [if_neg h1, List.getElem?_append_right (by simp; omega), List.length_take, Nat.min_eq_left h]
    by_cases h2 : i = k
    · subst h2; simp
    · rw [if_neg h2]
      obtain ⟨d, rfl⟩ : ∃ d, i = k + 1 + d := ⟨i - k - 1, by omega⟩
      rw [show k + 1 + d - k = d + 1 by omega, List.getElem?_cons_succ, List.getElem?_drop]
      congr 1
      omega
theorem insK_k {l : List AS} {k : Nat} {r : AS} (h : k ≤ l.length) : (insK l k r).getD k default = r := by
  rw [List.getD_eq_getElem?_getD, insK_get h, if_neg (by omega), if_pos rfl]; rfl
theorem insK_pred {l : List AS} {k : Nat} {r : AS} (h0 : 0 < k) (h : k ≤ l.length) : (insK l k r).getD (k - 1) default = l.getD (k - 1) default := by
  rw [List.getD_eq_getElem?_getD, insK_get h, if_pos (by omega), List.getD_eq_getElem?_getD]
theorem insK_swap {l : List AS} {k : Nat} {r : AS} (h0 : 0 < k) (h : k ≤ l.length) : ((insK l k r).set k (l.getD (k - 1) default)).set (k - 1) r = insK l (k - 1) r := by
  apply List.ext_getElem?
  intro i
  rw [insK_get (by omega), List.getElem?_set, List.getElem?_set, List.length_set, insK_len h, insK_get h]
  by_cases h1 : k - 1 = i
  · subst h1
    rw [if_pos rfl, if_pos (by omega), if_neg (by omega), if_pos rfl]
  · rw [if_neg h1]
    by_cases h2 : k = i
    · subst h2
      rw [if_pos rfl, if_pos (by omega), if_neg (by omega), if_neg (by omega), List.getD, List.getElem?_eq_getElem (by omega)]
      rfl
    · rw [if_neg h2]
      by_cases h3 : i < k
      · rw [if_pos h3, if_pos (by omega)]
      · rw [if_neg h3, if_neg (by omega), if_neg (by omega), if_neg (by omega)]
theorem swap_insK {l : List AS} {k k' m' : Nat} {r : AS} (h0 : 0 < k) (hk : k ≤ l.length) (hk' : k' = k) (hm' : m' = k - 1) {n : Nat} (hn : n = l.length + 1) {e : TypeId} :
    CoO (.arr true 1 e n (setEl (setEl (lf sC (insK l k r)) k' 0 [lf sC (insK l k r) m' 0]) m' 0 [lf sC (insK l k r) k' 0])) (.arr true 1 e n (lf sC (insK l (k - 1) r))) := by
  subst hk' hm'
  rw [← insK_swap h0 hk]
  refine swap_co (fun h => h) (by rw [insK_len hk]; exact hn) (by rw [insK_len hk]; omega) (by rw [insK_len hk]; omega) rfl rfl (fun j hj => ?_) (fun j hj => ?_)
  · obtain rfl : j = 0 := by omega
    exact CoP.of_eq (by show sC ((insK l k' r).getD (k' - 1) default) 0 = _; rw [insK_pred h0 hk])
  · obtain rfl : j = 0 := by omega
    exact CoP.of_eq (by show sC ((insK l k' r).getD k' default) 0 = _; rw [insK_k hk])
theorem bef_at {l : List AS} {k k' m' : Nat} {r : AS} {b : Bool} (h0 : 0 < k) (hk : k ≤ l.length) (h : bef ((insK l k r).getD k' default) ((insK l k r).getD m' default) = b) (hk' : k' = k) (hm' : m' = k - 1) : bef r (l.getD (k - 1) default) = b := by
  subst hk' hm'
  rwa [insK_k hk, insK_pred h0 hk] at h
theorem getD_mem {l : List AS} {j : Nat} (h : j < l.length) : l.getD j default ∈ l := by
  rw [List.getD_eq_getElem?_getD, List.getElem?_eq_getElem h]
  exact List.getElem_mem h
theorem insK_insO {l : List AS} {k : Nat} {r : AS} (hs : Ordd l) (hr : r ∉ l) (hk : k ≤ l.length) (h1 : ∀ j, k ≤ j → j < l.length → bef r (l.getD j default) = true) (h2 : k = 0 ∨ ¬ bef r (l.getD (k - 1) default) = true) : insK l k r = insO r l := by
  refine ordd_unique ?_ (ordd_insO hs) fun z => ?_
  · unfold Ordd insK
    rw [List.pairwise_append]
    refine ⟨hs.sublist (List.take_sublist _ _), List.pairwise_cons.2 ⟨fun z hz => ?_, hs.sublist (List.drop_sublist _ _)⟩, fun y hy z hz => ?_⟩
    · obtain ⟨j, hj, rfl⟩ := List.getElem_of_mem hz
      rw [List.length_drop] at hj
      have := h1 (k + j) (by omega) (by omega)
      rwa [List.getD_eq_getElem?_getD, List.getElem?_eq_getElem (by omega), Option.getD_some, ← List.getElem_drop] at this
    · have hyr : bef y r = true := by
        obtain ⟨j, hj, rfl⟩ := List.getElem_of_mem hy
        rw [List.length_take] at hj
        rcases h2 with h2 | h2
        · omega
        · have hk1 : k - 1 < l.length := by omega
          have hlast : bef (l.getD (k - 1) default) r = true := by
            rcases bef_tri (a := r) (b := l.getD (k - 1) default) (fun e => hr (e ▸ getD_mem hk1)) with h | h
            · exact absurd h h2
            · exact h
          rw [List.getElem_take]
          by_cases hjk : j = k - 1
          · subst hjk
            rwa [List.getD_eq_getElem?_getD, List.getElem?_eq_getElem hk1, Option.getD_some] at hlast
          · refine bef_trans ?_ hlast
            rw [List.getD_eq_getElem?_getD, List.getElem?_eq_getElem hk1, Option.getD_some]
            exact List.pairwise_iff_getElem.1 hs j (k - 1) (by omega) hk1 (by omega)
      rcases List.mem_cons.1 hz with rfl | hz
      · exact hyr
      · have h3 : bef r z = true := by
          obtain ⟨j, hj, rfl⟩ := List.getElem_of_mem hz
          rw [List.length_drop] at hj
          have := h1 (k + j) (by omega) (by omega)
          rwa [List.getD_eq_getElem?_getD, List.getElem?_eq_getElem (by omega), Option.getD_some, ← List.getElem_drop] at this
        exact bef_trans hyr h3
  · rw [mem_insO]
    unfold insK
    rw [List.mem_append, List.mem_cons]
    constructor
    · rintro (h | h | h)
      · exact .inr (List.mem_of_mem_take h)
      · exact .inl h
      · exact .inr (List.mem_of_mem_drop h)
    · rintro (h | h)
      · exact .inr (.inl h)
      · rw [← List.take_append_drop k l, List.mem_append] at h
        rcases h with h | h
        · exact .inl h
        · exact .inr (.inr h)
theorem insO_mem {r : AS} {l : List AS} (hs : Ordd l) (hr : r ∈ l) : insO r l = l := ordd_unique (ordd_insO hs) hs fun z => by
  rw [mem_insO]
  constructor
  · rintro (rfl | h)
    · exact hr
    · exact h
  · exact .inr
theorem ord_take {l : List AS} {i : Nat} (hi : i < l.length) : ord (l.take (i + 1)) = insO (l.getD i default) (ord (l.take i)) := by
  unfold ord
  rw [take_snoc hi, List.foldl_append]
  rfl
theorem insO_len (x : AS) : ∀ l : List AS, (insO x l).length ≤ l.length + 1
  | [] => by simp [insO]
  | y :: l => by
    unfold insO
    have := insO_len x l
    split
    · simp
    · split
      · simp
      · simp only [List.length_cons]; omega
theorem ord_len (l : List AS) : (ord l).length ≤ l.length := by
  have : ∀ (l o : List AS), (l.foldl (fun o x => insO x o) o).length ≤ o.length + l.length := by
    intro l
    induction l with
    | nil => intro o; simp
    | cons x l ih =>
      intro o
      have h1 := ih (insO x o)
      have h2 := insO_len x o
      simp only [List.foldl_cons, List.length_cons]
      omega
  have h := this l []
  simpa [ord] using h
theorem any_mem {l : List AS} {s : AS} : (l.any fun x => decide (x = s)) = decide (s ∈ l) := by
  rw [Bool.eq_iff_iff, List.any_eq_true, decide_eq_true_iff]
  constructor
  · rintro ⟨x, hx, h⟩
    exact of_decide_eq_true h ▸ hx
  · intro h
    exact ⟨s, h, decide_eq_true rfl⟩
def jC : Int → Nat → PV := fun n _ => .raw (.int .i64 n)
def orF (l : List Int) : Int := (l.find? fun x => decide (x ≠ 0)).getD 0
theorem orF_t {l : List Int} {i : Nat} (hi : i < l.length) (hI : ∀ j, j < i → decide (l.getD j default = 0) = true) (h : ¬ l.getD i default = 0) : orF l = l.getD i default := by
  unfold orF
  have : l.find? (fun x => decide (x ≠ 0)) = some (l.getD i default) := by
    rw [List.find?_eq_some_iff_getElem]
    refine ⟨decide_eq_true h, i, hi, by simp [List.getD, hi], fun j hj => ?_⟩
    have := of_decide_eq_true (hI j hj)
    rw [List.getD_eq_getElem?_getD, List.getElem?_eq_getElem (by omega), Option.getD_some] at this
    simp [this]
  rw [this]; rfl
theorem orF_f {l : List Int} (hI : ∀ j, j < l.length → decide (l.getD j default = 0) = true) : orF l = 0 := by
  unfold orF
  have : l.find? (fun x => decide (x ≠ 0)) = none := by
    rw [List.find?_eq_none]
    intro x hx
    obtain ⟨j, hj, rfl⟩ := List.getElem_of_mem hx
    have := of_decide_eq_true (hI j hj)
    rw [List.getD_eq_getElem?_getD, List.getElem?_eq_getElem hj, Option.getD_some] at this
    simp [this]
  rw [this]; rfl
theorem cmpS_or (a b : AS) : orF [cmpI (bsz a) (bsz b), cmpI (asI a) (asI b)] = cmpS a b := by
  unfold orF cmpS
  by_cases h : cmpI (bsz a) (bsz b) = 0
  · by_cases h2 : cmpI (asI a) (asI b) = 0 <;> simp [h, h2]
  · simp [h]
theorem co_lit2 {α : Type} [Inhabited α] {cl : Bool} {c : α → Nat → PV} {x y : α} {f : Nat → Nat → PV} (h0 : CoP (f 0 0) (c x 0)) (h1 : CoP (f 1 0) (c y 0)) : CoP (.sl 2 1 cl f) (psl 1 c [x, y]) :=
  CoP.sl rfl (.inl rfl) (fun h => by cases h) fun i j hi hj => by
    obtain rfl : j = 0 := by omega
    rcases (by omega : i = 0 ∨ i = 1) with rfl | rfl
    · exact h0
    · exact h1
theorem bef_ne {a b : AS} (h : ¬ (bsz a : Int) = bsz b) : decide ((bsz a : Int) < bsz b) = bef a b := by
  rw [Bool.eq_iff_iff, decide_eq_true_iff, bef_iff]
  omega
theorem bef_eq {a b : AS} (h : (bsz a : Int) = bsz b) : decide (asI a < asI b) = bef a b := by
  rw [Bool.eq_iff_iff, decide_eq_true_iff, bef_iff]
  unfold asI
  omega
theorem app_end {α : Type} [Inhabited α] {wr wr' : Bool} {e : TypeId} {c : α → Nat → PV} {l : List α} {x : α} {g : Nat → Nat → PV} (hg : CoP (g 0 0) (c x 0)) (hw : wr' = true → wr = true := by exact fun h => h) :
    CoO (.arr wr 1 e (l.length + 1) (appF l.length (lf c l) g)) (.arr wr' 1 e (l.length + 1) (lf c (l ++ [x]))) := by
  have h := arr_app1 (wr := wr) (wr' := wr') (e := e) (l := l) (l' := l ++ [x]) (g := g) rfl hg hw
  rwa [show (l ++ [x]).length = l.length + 1 by simp] at h
theorem arr_len {α : Type} [Inhabited α] {wr wr' : Bool} {s n m : Nat} {e : TypeId} {c : α → Nat → PV} {l l' : List α} (h : l' = l) (hn : n = m) (hw : wr' = true → wr = true := by exact fun h => h) : CoO (.arr wr s e n (lf c l)) (.arr wr' s e m (lf c l')) := by
  subst h hn
  exact ⟨hw, rfl, rfl, rfl, fun _ _ _ _ => CoP.refl _⟩
theorem cmpS_bef {a b : AS} : decide (cmpS a b < 0) = bef a b := by
  rw [Bool.eq_iff_iff, decide_eq_true_iff, bef_iff]
  unfold cmpS cmpI asI
  split <;> (repeat' split) <;> omega
end Go.Hx
end
section
namespace Go.Hx
open Go.Proofs
set_option maxRecDepth 100000
theorem good73 : goodFn Tryd.prog 73 := ⟨Tryd.f73, Tryd.func73, by kernel_rfl, by kernel_rfl⟩
theorem cNanI (a : Int) : HPure Tryd.prog 73 [pI a] (prOf [pB false]) := by
  refine hpure_of (nt := 6) Trydok Tryd.func73 rfl rfl (Nat.le_of_ble_eq_true rfl) ?_; refine hw_seq ?_; refine hw_region (E := TrydE) Trydok ?_; refine rq rfl rfl rfl rfl rfl ?_; refine rg_nil ?_; show HW _ _ _ _ _
  refine hw_seq ?_; refine hw_region (E := TrydE) Trydok ?_; (iterate 4 refine rq rfl rfl rfl rfl rfl ?_); refine rg_nil ?_; show HW _ _ _ _ _; refine hw_ret ?_; refine ⟨.inr rfl, ?_⟩
  exact ⟨_, _, _, _, rfl, (by (repeat' apply And.intro) <;> first | trivial | exact Nat.le_of_ble_eq_true rfl | rfl), rfl, (by (repeat' apply And.intro) <;> first | trivial | exact Nat.le_of_ble_eq_true rfl | rfl), ⟨ccb (by simp), trivial⟩⟩
theorem good61 : goodFn Tryd.prog 61 := ⟨Tryd.f61, Tryd.func61, by kernel_rfl, by kernel_rfl⟩
theorem cCmpI (a b : Int) : HPure Tryd.prog 61 [pI a, pI b] (prOf [pI (cmpI a b)]) := by
  refine hpure_of (nt := 20) Trydok Tryd.func61 rfl rfl (Nat.le_of_ble_eq_true rfl) ?_; refine hw_seq ?_; refine hw_region (E := TrydE) Trydok ?_; refine rq rfl rfl rfl rfl rfl ?_; refine rg_nil ?_; show HW _ _ _ _ _
  refine hw_seq ?_; refine hw_region (E := TrydE) Trydok ?_; refine rq rfl rfl rfl rfl rfl ?_; refine rc rfl rfl rfl rfl rfl rfl good73 (cNanI _) (CoL.refl _) rfl rfl ?_; refine rq rfl rfl rfl rfl rfl ?_; refine rg_nil ?_
  show HW _ _ _ _ _; refine hw_seq ?_; refine hw_region (E := TrydE) Trydok ?_; refine rq rfl rfl rfl rfl rfl ?_; refine rc rfl rfl rfl rfl rfl rfl good73 (cNanI _) (CoL.refl _) rfl rfl ?_; refine rq rfl rfl rfl rfl rfl ?_
  refine rg_nil ?_; show HW _ _ _ _ _; (iterate 2 refine hw_seq ?_); refine hw_region (E := TrydE) Trydok ?_; refine rq rfl rfl rfl rfl rfl ?_; refine rg_nil ?_; show HW _ _ _ _ _
  refine hw_cond _ rfl (fun e => by cases e) (fun _ => ?_); refine hw_skip ?_; show HW _ _ _ _ _; (iterate 2 refine hw_seq ?_); refine hw_region (E := TrydE) Trydok ?_; refine rq rfl rfl rfl rfl rfl ?_; refine rg_nil ?_
  show HW _ _ _ _ _; refine hw_cond _ rfl (fun e => by cases e) (fun _ => ?_); refine hw_skip ?_; show HW _ _ _ _ _; (iterate 2 refine hw_seq ?_); refine hw_region (E := TrydE) Trydok ?_; (iterate 3 refine rq rfl rfl rfl rfl rfl ?_)
  refine rg_nil ?_; show HW _ _ _ _ _; refine hw_cond _ rfl (fun r0 => ?_) (fun r0 => ?_)
  · skip
    have h0 := r0
    have h0 := of_decide_eq_true h0
    try simp only [Int.toNat_natCast] at h0
    refine hw_seq ?_; refine hw_region (E := TrydE) Trydok ?_; refine rq rfl rfl rfl rfl rfl ?_; refine rg_nil ?_; show HW _ _ _ _ _; refine hw_ret ?_; refine ⟨.inr rfl, ?_⟩
    exact ⟨_, _, _, _, rfl, (by (repeat' apply And.intro) <;> first | trivial | exact Nat.le_of_ble_eq_true rfl | rfl), rfl, (by (repeat' apply And.intro) <;> first | trivial | exact Nat.le_of_ble_eq_true rfl | rfl), ⟨cci (by unfold cmpI; first | (rw [if_pos (by omega)]) | (rw [if_neg (by omega), if_pos (by omega)]) | (rw [if_neg (by omega), if_neg (by omega)])), trivial⟩⟩
  · skip
    have h0 := r0
    have h0 := of_decide_eq_false h0
    try simp only [Int.toNat_natCast] at h0
    refine hw_skip ?_; show HW _ _ _ _ _; (iterate 2 refine hw_seq ?_); refine hw_region (E := TrydE) Trydok ?_; (iterate 3 refine rq rfl rfl rfl rfl rfl ?_); refine rg_nil ?_; show HW _ _ _ _ _
    refine hw_cond _ rfl (fun r1 => ?_) (fun r1 => ?_)
    · skip
      have h1 := r1
      have h1 := of_decide_eq_true h1
      try simp only [Int.toNat_natCast] at h1
      refine hw_seq ?_; refine hw_region (E := TrydE) Trydok ?_; refine rq rfl rfl rfl rfl rfl ?_; refine rg_nil ?_; show HW _ _ _ _ _; refine hw_ret ?_; refine ⟨.inr rfl, ?_⟩
      exact ⟨_, _, _, _, rfl, (by (repeat' apply And.intro) <;> first | trivial | exact Nat.le_of_ble_eq_true rfl | rfl), rfl, (by (repeat' apply And.intro) <;> first | trivial | exact Nat.le_of_ble_eq_true rfl | rfl), ⟨cci (by unfold cmpI; first | (rw [if_pos (by omega)]) | (rw [if_neg (by omega), if_pos (by omega)]) | (rw [if_neg (by omega), if_neg (by omega)])), trivial⟩⟩
    · skip
      have h1 := r1
      have h1 := of_decide_eq_false h1
      try simp only [Int.toNat_natCast] at h1
      refine hw_skip ?_; show HW _ _ _ _ _; refine hw_seq ?_; refine hw_region (E := TrydE) Trydok ?_; refine rq rfl rfl rfl rfl rfl ?_; refine rg_nil ?_; show HW _ _ _ _ _; refine hw_ret ?_; refine ⟨.inr rfl, ?_⟩
      exact ⟨_, _, _, _, rfl, (by (repeat' apply And.intro) <;> first | trivial | exact Nat.le_of_ble_eq_true rfl | rfl), rfl, (by (repeat' apply And.intro) <;> first | trivial | exact Nat.le_of_ble_eq_true rfl | rfl), ⟨cci (by unfold cmpI; first | (rw [if_pos (by omega)]) | (rw [if_neg (by omega), if_pos (by omega)]) | (rw [if_neg (by omega), if_neg (by omega)])), trivial⟩⟩
end Go.Hx
end
section
namespace Go.Hx
abbrev pZ (r : Rw) : PC := .one (zl r)
abbrev pR (l : List Rw) : PC := .one (rl l)
abbrev pT (n : Int) (l : List Rw) : PC := .agg [.raw (.int .i64 n), rl l]
theorem ltR_at : ∀ {a b : Rw} {i : Nat}, i < a.length → i < b.length → (∀ j, j < i → a.getD j default = b.getD j default) → ¬ a.getD i default = b.getD i default → ltZ a b = decide (a.getD i default < b.getD i default)
  | [], _, _, h, _, _, _ => by simp at h
  | _ :: _, [], _, _, h, _, _ => by simp at h
  | x :: a, y :: b, 0, _, _, _, hn => by
    have : ¬ x = y := hn
    unfold ltZ
    rw [if_neg this]
    rfl
  | x :: a, y :: b, i + 1, ha, hb, h, hn => by
    have e : x = y := h 0 (by omega)
    unfold ltZ
    rw [if_pos e]
    exact ltR_at (by simpa using ha) (by simpa using hb) (fun j hj => h (j + 1) (by omega)) hn
theorem ltR_end : ∀ {a b : Rw}, (∀ j, j < a.length → j < b.length → a.getD j default = b.getD j default) → ltZ a b = decide (a.length < b.length)
  | [], [], _ => rfl
  | [], _ :: _, _ => by simp [ltZ]
  | _ :: _, [], _ => by simp [ltZ]
  | x :: a, y :: b, h => by
    have e : x = y := h 0 (by simp) (by simp)
    unfold ltZ
    rw [if_pos e, ltR_end fun j h1 h2 => h (j + 1) (by simpa using h1) (by simpa using h2)]
    simp
def cmpZ (a b : Rw) : Int := if a = b then 0 else if ltZ a b = true then -1 else 1
theorem cmpZ_at {a b : Rw} {i : Nat} (ha : i < a.length) (hb : i < b.length) (h : ∀ j, j < i → a.getD j default = b.getD j default) (hn : ¬ cmpI (a.getD i default) (b.getD i default) = 0) : cmpI (a.getD i default) (b.getD i default) = cmpZ a b := by
  have hne : ¬ a.getD i default = b.getD i default := fun e => hn (by unfold cmpI; rw [if_neg (by omega), if_neg (by omega)])
  unfold cmpI cmpZ
  rw [if_neg (fun e : a = b => hne (by rw [e])), ltR_at ha hb h hne]
  simp only [decide_eq_true_eq]
  split
  · rfl
  · rw [if_pos (by omega)]
theorem cmpI_0 {a b : Int} (h : cmpI a b = 0) : a = b := by
  unfold cmpI at h
  split at h
  · omega
  · split at h <;> omega
theorem cmpZ_gt {a b : Rw} {i : Nat} (ha : i < a.length) (hb : ¬ i < b.length) (h : ∀ j, j < i → a.getD j default = b.getD j default) : (1 : Int) = cmpZ a b := by
  unfold cmpZ
  rw [if_neg (fun e : a = b => by subst e; omega), ltR_end fun j h1 h2 => h j (by omega), if_neg (by simp only [decide_eq_true_eq]; omega)]
theorem cmpZ_lt {a b : Rw} (hl : a.length < b.length) (h : ∀ j, j < a.length → a.getD j default = b.getD j default) : (-1 : Int) = cmpZ a b := by
  unfold cmpZ
  rw [if_neg (fun e : a = b => by subst e; omega), ltR_end fun j h1 h2 => h j h1, if_pos (by simp only [decide_eq_true_eq]; omega)]
theorem cmpZ_eq {a b : Rw} (hl : a.length ≤ b.length) (hl2 : ¬ a.length < b.length) (h : ∀ j, j < a.length → a.getD j default = b.getD j default) : (0 : Int) = cmpZ a b := by
  unfold cmpZ
  rw [if_pos (list_eq (by omega) h)]
theorem rw_eq {a b : Rw} (h : a.length = b.length) (hI : ∀ j, j < a.length → decide (a.getD j default = b.getD j default) = true) : a = b := list_eq h fun j hj => of_decide_eq_true (hI j hj)
theorem len_le {a b : Nat} (h : ∀ j, j < a → j < b) : a ≤ b := Nat.le_of_not_lt fun e => Nat.lt_irrefl _ (h b e)
def agrZ (a b : Rw) (s : AS) : Bool := decide (∀ i : Nat, i < a.length → (hasI s (i : Int) = true → a.getD i default = b.getD i default))
theorem agrZ_f {a b : Rw} {s : AS} {i : Nat} (hi : i < a.length) (h : hasI s (i : Int) = true) (hn : ¬ a.getD i default = b.getD i default) : agrZ a b s = false := decide_eq_false fun e => hn (e i hi h)
theorem agrZ_t {a b : Rw} {s : AS} (h : ∀ i : Nat, i < a.length → (hasI s (i : Int) = true → a.getD i default = b.getD i default)) : agrZ a b s = true := decide_eq_true h
theorem has_n {s : AS} {i : Nat} (h : i < 32) : bitV .and .u32 ((asI s).fdiv (2 ^ (min i 32))) 1 = 1 ↔ hasI s (i : Int) = true := by
  rw [← has_v (s := s) (i := (i : Int)) (by omega) (by omega), decide_eq_true_iff]
  rfl
def tokR (n : Int) (l : List Rw) (i : Nat) : Bool := decide (((l.getD i default).length : Int) = n) && !(l.getD i default).any (fun x => decide (x < 0)) && (decide (i = 0) || ltZ (l.getD (i - 1) default) (l.getD i default))
def tok (n : Int) (l : List Rw) : Bool := decide (0 ≤ n ∧ n ≤ 16 ∧ l.length ≤ 256) && decide (∀ i, i < l.length → tokR n l i = true)
theorem tok_t {n : Int} {l : List Rw} (h0 : 0 ≤ n) (h1 : n ≤ 16) (h2 : l.length ≤ 256) (h : ∀ i, i < l.length → tokR n l i = true) : tok n l = true := by
  unfold tok
  rw [decide_eq_true (show 0 ≤ n ∧ n ≤ 16 ∧ l.length ≤ 256 from ⟨h0, h1, h2⟩), decide_eq_true h]
  rfl
theorem tok_f0 {n : Int} {l : List Rw} (h : ¬ (0 ≤ n ∧ n ≤ 16 ∧ l.length ≤ 256)) : tok n l = false := by
  unfold tok
  rw [decide_eq_false h]
  rfl
theorem tok_f {n : Int} {l : List Rw} {i : Nat} (hi : i < l.length) (h : tokR n l i = false) : tok n l = false := by
  unfold tok
  rw [decide_eq_false (fun e : ∀ i, i < l.length → tokR n l i = true => by rw [e i hi] at h; cases h), Bool.and_false]
def mixZ (a b : Rw) (s : AS) : Rw := (List.range b.length).map fun (i : Nat) => if hasI s (i : Int) = true then a.getD i default else b.getD i default
end Go.Hx
end
