/- A part of the proof: lemmas for the theorem of this claim, merged by a program of ours out of LyTz, TzW, Cs7, Cs8, V6, Cs9. -/
import Derived.Shelf.Lays7
import Derived.Shelf.Spec.TrailingZeros
import Derived.Test.YtidophngianjiaaGreatDoorProg
import Derived.Test.YtidophngianjiaaGreatDoorP19
set_option linter.all false
section
namespace Go.Proofs
open Go.Shelf
def Tryz.lays28_ren : Go.Shelf.Ren := ⟨fun | 28 => 190 | n => n, fun | 27 => 37 | 3 => 3 | 4 => 4 | 25 => 137 | 53 => 213 | 0 => 0 | 5 => 5 | n => n, fun | 0 => 0 | n => n⟩
theorem Tryz.lays28 : Go.Proofs.Lays7.n28 Tryz.prog Tryz.lays28_ren := {
 mixed := by kernel_rfl
 f28 := Tryz.func190.trans (congrArg some (by kernel_rfl))
 t0 := Tryz.underlying0
 a0 := Tryz.isAgg0
 z0 := Tryz.sizeOf0
 v0 := Tryz.zeroValue0
 i0 := by kernel_rfl
 t3 := Tryz.underlying3
 a3 := Tryz.isAgg3
 z3 := Tryz.sizeOf3
 v3 := Tryz.zeroValue3
 i3 := by kernel_rfl
 t4 := Tryz.underlying4
 a4 := Tryz.isAgg4
 z4 := Tryz.sizeOf4
 v4 := Tryz.zeroValue4
 i4 := by kernel_rfl
 t5 := Tryz.underlying5
 a5 := Tryz.isAgg5
 z5 := Tryz.sizeOf5
 v5 := Tryz.zeroValue5
 i5 := by kernel_rfl
 t25 := Tryz.underlying137
 a25 := Tryz.isAgg137
 z25 := Tryz.sizeOf137
 v25 := Tryz.zeroValue137
 i25 := by kernel_rfl
 t27 := Tryz.underlying37
 a27 := Tryz.isAgg37
 z27 := Tryz.sizeOf37
 v27 := Tryz.zeroValue37
 i27 := by kernel_rfl
 t53 := Tryz.underlying213
 a53 := Tryz.isAgg213
 z53 := Tryz.sizeOf213
 v53 := Tryz.zeroValue213
 i53 := by kernel_rfl
 g0 := by kernel_rfl }
end Go.Proofs
end
section
namespace Go.Hx
open Go.Proofs Go.RowKit
set_option maxRecDepth 100000
theorem good190 : goodFn Tryz.prog 190 := ⟨Tryz.f190, Tryz.func190, by kernel_rfl, by kernel_rfl⟩
theorem tab32 : ∀ j, j < Lib.deBruijn32tab.length → seatTab 0 j = some (.int .u8 (Lib.deBruijn32tab.getD j 0)) := fun j hj => by
 unfold seatTab
 rw [show seatDat 0 = Lib.deBruijn32tab.map (fun k : Nat => Value.int .u8 (k : Int)) from rfl, List.getElem?_map, List.getElem?_eq_getElem hj, List.getD_eq_getElem?_getD, List.getElem?_eq_getElem hj]
 rfl
theorem cTz (s : AS) : HPure Tryz.prog 190 [pA s] (prOf [pI (lowB s)]) := by
 intro w imm us htab him hus
 match us, hus with
 | [u], ⟨hu, _⟩ =>
  obtain ⟨rfl, _⟩ := hu
  have h := Any7.bits_TrailingZeros32 Tryz.lays28 s.toNat s.isLt w fun _ j hj => by
   have hc := htab 0 j _ (tab32 j hj)
   unfold cellIn at hc
   cases hb : imm 0 with
   | none => rw [hb] at hc; cases hc
   | some ob =>
    rw [hb] at hc
    have hw := him 0 ob hb
    cases ob <;> simp at hc
    show w.cell? ⟨0, j, none⟩ = _
    simp [World.cell?, hw, hc]
  refine h.mono ?_
  rintro e w' ⟨rfl, rfl⟩
  exact ⟨_, imm, rfl, ⟨rfl, rfl⟩, fun _ _ => rfl, him, Below.refl _ _⟩
 | [], h => exact h.elim
 | _ :: _ :: _, ⟨_, h⟩ => exact h.elim
end Go.Hx
end
section
namespace Go.Hx
theorem ref_len {id n m : Nat} (h : n = m) : CoR (.v (.one (.ref id n))) (.v (.one (.ref id m))) := by subst h; exact CoR.refl _
section
variable {α : Type} [Inhabited α]
theorem arr_app {wr wr' : Bool} {s m : Nat} {e : TypeId} {c : α → Nat → PV} {l l' : List α} {x : α} {g : Nat → Nat → PV} (h : l' = l ++ [x]) (hg : ∀ j, j < s → CoP (g 0 j) (c x j)) (hm : m = 1 := by rfl) (hw : wr' = true → wr = true := by exact fun h => h) :
 CoO (.arr wr s e (l.length + m) (appF l.length (lf c l) g)) (.arr wr' s e l'.length (lf c l')) := by
 subst h
 refine co_app [x] hw hm fun i j hi hj => ?_
 obtain rfl : i = 0 := by simp at hi; exact hi
 exact hg j hj
theorem arr_same {wr wr' : Bool} {s : Nat} {e : TypeId} {c : α → Nat → PV} {l l' : List α} (h : l' = l) (hw : wr' = true → wr = true := by exact fun h => h) : CoO (.arr wr s e l.length (lf c l)) (.arr wr' s e l'.length (lf c l')) := by
 subst h
 exact ⟨hw, rfl, rfl, rfl, fun _ _ _ _ => CoP.refl _⟩
end
section
variable {α : Type} [Inhabited α]
theorem ref_app {id : Nat} {l l' : List α} {x : α} (h : l' = l ++ [x]) : CoR (.v (.one (.ref id (l.length + 1)))) (.v (.one (.ref id l'.length))) := by subst h; rw [List.length_append]; exact CoR.refl _
theorem ref_same {id : Nat} {l l' : List α} (h : l' = l) : CoR (.v (.one (.ref id l.length))) (.v (.one (.ref id l'.length))) := by subst h; exact CoR.refl _
theorem arr_app1 {wr wr' : Bool} {e : TypeId} {c : α → Nat → PV} {l l' : List α} {x : α} {g : Nat → Nat → PV} (h : l' = l ++ [x]) (hg : CoP (g 0 0) (c x 0)) (hw : wr' = true → wr = true := by exact fun h => h) :
 CoO (.arr wr 1 e (l.length + 1) (appF l.length (lf c l) g)) (.arr wr' 1 e l'.length (lf c l')) :=
 arr_app h (fun j hj => by
  obtain rfl : j = 0 := by omega
  exact hg) rfl hw
theorem arr_app2 {wr wr' : Bool} {e : TypeId} {c : α → Nat → PV} {l l' : List α} {x : α} {g : Nat → Nat → PV} (h : l' = l ++ [x]) (h0 : CoP (g 0 0) (c x 0)) (h1 : CoP (g 0 1) (c x 1)) (hw : wr' = true → wr = true := by exact fun h => h) :
 CoO (.arr wr 2 e (l.length + 1) (appF l.length (lf c l) g)) (.arr wr' 2 e l'.length (lf c l')) :=
 arr_app h (fun j hj => by
  rcases (by omega : j = 0 ∨ j = 1) with rfl | rfl
  · exact h0
  · exact h1) rfl hw
end
def membT (s : AS) (i : Nat) : List Nat := (List.range i).filter fun k => s.getLsbD k
theorem membT_t {s : AS} {i : Nat} (hi : i < 32) (h : hasI s (i : Int) = true) : membT s (i + 1) = membT s i ++ [i] := by
 rw [hasI_nat hi] at h
 unfold membT
 rw [List.range_succ, List.filter_append]
 simp [h]
theorem membT_f {s : AS} {i : Nat} (hi : i < 32) (h : hasI s (i : Int) = false) : membT s (i + 1) = membT s i := by
 rw [hasI_nat hi] at h
 unfold membT
 rw [List.range_succ, List.filter_append]
 simp [h]
theorem membT_len (s : AS) (i : Nat) : (membT s i).length ≤ i := by
 unfold membT
 have := List.length_filter_le (fun k => s.getLsbD k) (List.range i)
 rwa [List.length_range] at this
end Go.Hx
end
section
namespace Go.Hx
def cnt8 (b : Nat) : Nat := (List.range 8).countP fun i => b.testBit i
theorem countP_range_add (p : Nat → Bool) (a b : Nat) : (List.range (a + b)).countP p = (List.range a).countP p + (List.range b).countP fun i => p (a + i) := by
 rw [List.range_add, List.countP_append, List.countP_map]
 rfl
theorem byte_bit {n k j : Nat} (hj : j < 8) : (n / 2 ^ k % 256).testBit j = n.testBit (k + j) := by
 rw [show (256 : Nat) = 2 ^ 8 from rfl, Nat.testBit_mod_two_pow, Nat.testBit_div_two_pow, Nat.add_comm]
 simp [hj]
theorem bytes4 (n : Nat) (hn : n < 2 ^ 32) : (List.range (8 + (8 + (8 + 8)))).countP (fun i => n.testBit i) = cnt8 (n / 2 ^ 24) + cnt8 (n / 2 ^ 16 % 256) + cnt8 (n / 2 ^ 8 % 256) + cnt8 (n % 256) := by
 have h : ∀ k, (List.range 8).countP (fun i => n.testBit (k + i)) = cnt8 (n / 2 ^ k % 256) := fun k => by
  unfold cnt8
  apply List.countP_congr
  intro j hj
  rw [byte_bit (List.mem_range.1 hj)]
 have h3 : n / 2 ^ 24 % 256 = n / 2 ^ 24 := Nat.mod_eq_of_lt (by omega)
 have h0 := h 0
 simp only [Nat.zero_add, Nat.pow_zero, Nat.div_one] at h0
 rw [countP_range_add, countP_range_add, countP_range_add, h0]
 have e2 := h 8
 have e3 := h 16
 have e4 := h 24
 rw [h3] at e4
 simp only [← Nat.add_assoc] at *
 simp only [Nat.reduceAdd] at *
 rw [e2, e3, e4]
 omega
theorem bsz_bytes (s : AS) : bsz s = cnt8 (s.toNat / 2 ^ 24) + cnt8 (s.toNat / 2 ^ 16 % 256) + cnt8 (s.toNat / 2 ^ 8 % 256) + cnt8 (s.toNat % 256) := bytes4 s.toNat s.isLt
theorem cnt8_le (b : Nat) : cnt8 b ≤ 8 := by
 have := List.countP_le_length (p := fun i => b.testBit i) (l := List.range 8)
 rwa [List.length_range] at this
theorem byteN (s : AS) (k : Nat) (hk : k ≤ 32) : ((asI s).fdiv (2 ^ (min k 32))).toNat = s.toNat / 2 ^ k := by
 rw [bShr]
 show (((s >>> k).toNat : Nat) : Int).toNat = _
 rw [Int.toNat_natCast, BitVec.toNat_ushiftRight, Nat.shiftRight_eq_div_pow]
theorem byteM (s : AS) (k : Nat) (hk : k ≤ 32) : (bitV .and .u32 ((asI s).fdiv (2 ^ (min k 32))) 255).toNat = s.toNat / 2 ^ k % 256 := by
 rw [bShr, show (255 : Int) = asI 255 from rfl, bAnd]
 show (((s >>> k &&& 255).toNat : Nat) : Int).toNat = _
 rw [Int.toNat_natCast, BitVec.toNat_and, BitVec.toNat_ushiftRight, Nat.shiftRight_eq_div_pow, show (255 : AS).toNat = 2 ^ 8 - 1 from rfl, Nat.and_two_pow_sub_one_eq_mod]
theorem byteL (s : AS) : (bitV .and .u32 (asI s) 255).toNat = s.toNat % 256 := by
 rw [show (255 : Int) = asI 255 from rfl, bAnd]
 show (((s &&& 255).toNat : Nat) : Int).toNat = _
 rw [Int.toNat_natCast, BitVec.toNat_and, show (255 : AS).toNat = 2 ^ 8 - 1 from rfl, Nat.and_two_pow_sub_one_eq_mod]
theorem and_nn (a b : Int) : 0 ≤ bitV .and .u32 a b := by
 show 0 ≤ IntKind.wrap .u32 _
 rw [wrap_u32 (Int.natCast_nonneg _) (by have := (BitVec.ofInt 32 a &&& BitVec.ofInt 32 b).isLt; show ((BitVec.ofInt 32 a &&& BitVec.ofInt 32 b).toNat : Int) < _; omega)]
 exact Int.natCast_nonneg _
theorem fdiv_nn (s : AS) (k : Nat) : 0 ≤ (asI s).fdiv (2 ^ (min k 32)) := by rw [bShr]; exact asI_nn _
theorem ix24 {X : ByteArray} (s : AS) (hX : (256 : Int) ≤ X.size) : 0 ≤ (asI s).fdiv (2 ^ (min 24 32)) ∧ (asI s).fdiv (2 ^ (min 24 32)) < X.size := by
 have h1 := fdiv_nn s 24
 have h2 := byteN s 24 (by omega)
 have := s.isLt
 exact ⟨h1, by omega⟩
theorem ixM {X : ByteArray} (s : AS) (k : Nat) (hk : k ≤ 32) (hX : (256 : Int) ≤ X.size) : 0 ≤ bitV .and .u32 ((asI s).fdiv (2 ^ (min k 32))) 255 ∧ bitV .and .u32 ((asI s).fdiv (2 ^ (min k 32))) 255 < X.size := by
 have h1 := and_nn ((asI s).fdiv (2 ^ (min k 32))) 255
 have h2 := byteM s k hk
 exact ⟨h1, by omega⟩
theorem ixL {X : ByteArray} (s : AS) (hX : (256 : Int) ≤ X.size) : 0 ≤ bitV .and .u32 (asI s) 255 ∧ bitV .and .u32 (asI s) 255 < X.size := by
 have h1 := and_nn (asI s) 255
 have h2 := byteL s
 exact ⟨h1, by omega⟩
theorem wrap_u8 {n : Int} (h0 : 0 ≤ n) (h1 : n < 256) : IntKind.wrap .u8 n = n := wrap_inR (by simp only [inR, loOf, hiOf]; omega)
theorem wrap_i64s {n : Int} (h0 : 0 ≤ n) (h1 : n < 256) : IntKind.wrap .i64 n = n := wrap_inR (by simp only [inR, loOf, hiOf]; omega)
theorem ones_v {X : ByteArray} {s : AS} {i0 i1 i2 i3 : Nat} (hX : ∀ b, b < 256 → byteAt X b = (cnt8 b : Int)) (h0 : i0 = s.toNat / 2 ^ 24) (h1 : i1 = s.toNat / 2 ^ 16 % 256) (h2 : i2 = s.toNat / 2 ^ 8 % 256) (h3 : i3 = s.toNat % 256) :
 IntKind.wrap .i64 (IntKind.wrap .u8 (IntKind.wrap .u8 (IntKind.wrap .u8 (byteAt X i0 + byteAt X i1) + byteAt X i2) + byteAt X i3)) = (bsz s : Int) := by
 have := s.isLt
 subst h0 h1 h2 h3
 rw [hX _ (by omega), hX _ (by omega), hX _ (by omega), hX _ (by omega)]
 have a0 := cnt8_le (s.toNat / 2 ^ 24)
 have a1 := cnt8_le (s.toNat / 2 ^ 16 % 256)
 have a2 := cnt8_le (s.toNat / 2 ^ 8 % 256)
 have a3 := cnt8_le (s.toNat % 256)
 rw [bsz_bytes]
 generalize cnt8 (s.toNat / 2 ^ 24) = c0 at *
 generalize cnt8 (s.toNat / 2 ^ 16 % 256) = c1 at *
 generalize cnt8 (s.toNat / 2 ^ 8 % 256) = c2 at *
 generalize cnt8 (s.toNat % 256) = c3 at *
 rw [wrap_u8 (n := c0 + c1) (by omega) (by omega), wrap_u8 (n := c0 + c1 + c2) (by omega) (by omega), wrap_u8 (n := c0 + c1 + c2 + c3) (by omega) (by omega), wrap_i64s (n := c0 + c1 + c2 + c3) (by omega) (by omega)]
 omega
theorem bsz_le (s : AS) : bsz s ≤ 32 := by
 have := List.countP_le_length (p := fun i => s.getLsbD i) (l := List.range 32)
 rwa [List.length_range] at this
theorem membs_len {s0 : AS} (x : List Nat × AS) (h : x.1 ++ membs x.2 = membs s0) : x.1.length ≤ 32 := by
 have h1 := congrArg List.length h
 rw [List.length_append, ← bsz_membs s0] at h1
 have := bsz_le s0
 omega
theorem pred_v {s : AS} (h : s ≠ 0) : asI s - 1 = asI (s - 1) := by
 have h0 : s.toNat ≠ 0 := fun e => h (BitVec.eq_of_toNat_eq e)
 have := s.isLt
 have e1 : (s - 1).toNat = s.toNat - 1 := by
  rw [BitVec.toNat_sub]
  show (2 ^ 32 - 1 + s.toNat) % 2 ^ 32 = _
  omega
 unfold asI
 rw [e1]
 omega
theorem pred_pre {s : AS} (h : s ≠ 0) : (arith true .u32 (asI s - 1)).1 := by
 rw [pred_v h]
 have h1 := asI_nn (s - 1)
 have h2 := asI_lt (s - 1)
 simp only [arith, inR, loOf, hiOf]
 omega
theorem and_pred {s : AS} (h : s ≠ 0) : bitV .and .u32 (asI s) (asI s - 1) = asI (s &&& (s - 1)) := by rw [pred_v h, bAnd]
def cmpI (a b : Int) : Int := if a < b then -1 else if b < a then 1 else 0
def cmpS (a b : AS) : Int := if cmpI (bsz a) (bsz b) = 0 then cmpI (asI a) (asI b) else cmpI (bsz a) (bsz b)
end Go.Hx
end
section
namespace Go.Hx
open Go.Proofs
set_option maxRecDepth 100000
theorem good185 : goodFn Tryz.prog 185 := ⟨Tryz.f185, Tryz.func185, by kernel_rfl, by kernel_rfl⟩
theorem cRMem (s : AS) : HPure Tryz.prog 185 [pA s] (prOf [pP (il (membs s))]) := by
 refine hpure_of (nt := 17) Tryzok Tryz.func185 rfl rfl l9 ?_; refine hw_seq ?_; refine gy ?_; refine qy ?_; refine rg_nil ?_; refine hw_seq ?_; refine gy ?_; refine qy ?_; refine rg_nil ?_; (iterate 2 refine hw_seq ?_)
 refine gy ?_; refine qy ?_; refine rg_nil ?_; refine hw_block ?_; refine hw_adopt 3 900 true 1 3 (lf iC []) (by decide) rfl (CoP.sl rfl (.inr rfl) (fun h => h) (fun i j hi _ => absurd hi (Nat.not_lt_zero i))) (.inr rfl) rfl ?_
 refine hw_loopK (ι := Nat) ⟨[(0, some _)], []⟩ ⟨⟨c9, trivial⟩, trivial⟩ (fun i => ⟨[(3, some (.v (.one (.ref 900 (membT s i).length)))), (4, some (vI i))], [(900, some (.arr true 1 3 (membT s i).length (lf iC (membT s i))))]⟩) (fun i => i ≤ 32) (fun i => 32 - i) (0) (Nat.zero_le _) ⟨⟨zy, zy, trivial⟩, ⟨u9, trivial⟩⟩ ?_
 rintro i hi
 have hlen := membT_len s i
 (iterate 2 refine hw_seq ?_); refine gy ?_; (iterate 2 refine qy ?_); refine rg_nil ?_; refine hw_cond _ rfl (fun r0 => ?_) (fun r0 => ?_)
 ·
  have h0 := of_decide_eq_true r0
  try simp only [ty] at h0
  refine hw_skip ?_; refine hw_seq ?_; refine hw_block ?_; refine hw_seq ?_; refine gy ?_; (iterate 2 refine qy ?_); refine rc rfl rfl rfl rfl rfl rfl good171 (cHas s i) (CoL.refl _) rfl rfl ?_; refine rg_nil ?_
  refine hw_cond _ rfl (fun r1 => ?_) (fun r1 => ?_)
  ·
   have h1 := r1
   refine gy ?_; (iterate 2 refine qy ?_); refine m9 0 ?_; refine ra 1 true rfl rfl rfl rfl rfl rfl ?_; refine qy ?_; refine rg_nil ?_; refine gy ?_; (iterate 3 refine qy ?_); refine rg_nil ?_
   first | (refine ⟨i + 1, ?_, ?_, ?_⟩
            · show i + 1 ≤ _; omega
            · first | omega | (dsimp only; omega)
            · exact ⟨⟨⟨_, rfl, (ref_app (membT_t (by omega) (by assumption)))⟩, zy, c9, trivial⟩, ⟨⟨_, rfl, (arr_app1 (membT_t (by omega) (by assumption)) (CoP.refl _))⟩, trivial⟩⟩)
         | (refine ⟨i + 1, ?_, ?_, ?_⟩
            · show i + 1 ≤ _; omega
            · first | omega | (dsimp only; omega)
            · exact ⟨⟨⟨_, rfl, (ref_same (membT_f (by omega) (by assumption)))⟩, zy, c9, trivial⟩, ⟨⟨_, rfl, (arr_same (membT_f (by omega) (by assumption)))⟩, trivial⟩⟩)
  ·
   have h1 := r1
   refine hw_skip ?_; refine gy ?_; (iterate 3 refine qy ?_); refine rg_nil ?_
   first | (refine ⟨i + 1, ?_, ?_, ?_⟩
            · show i + 1 ≤ _; omega
            · first | omega | (dsimp only; omega)
            · exact ⟨⟨⟨_, rfl, (ref_app (membT_t (by omega) (by assumption)))⟩, zy, c9, trivial⟩, ⟨⟨_, rfl, (arr_app1 (membT_t (by omega) (by assumption)) (CoP.refl _))⟩, trivial⟩⟩)
         | (refine ⟨i + 1, ?_, ?_, ?_⟩
            · show i + 1 ≤ _; omega
            · first | omega | (dsimp only; omega)
            · exact ⟨⟨⟨_, rfl, (ref_same (membT_f (by omega) (by assumption)))⟩, zy, c9, trivial⟩, ⟨⟨_, rfl, (arr_same (membT_f (by omega) (by assumption)))⟩, trivial⟩⟩)
 ·
  have h0 := of_decide_eq_false r0
  try simp only [ty] at h0
  obtain rfl : i = 32 := by omega
  refine hw_exit ?_; refine hw_seq ?_; refine gy ?_; (iterate 2 refine qy ?_); refine rg_nil ?_; refine hw_freeze 2 rfl rfl rfl ?_; refine hw_ret ?_; refine ⟨.inr rfl, ?_⟩
  exact f9 rfl rfl (⟨CoC.one (CoP.refl _), trivial⟩)
theorem good153 : goodFn Tryz.prog 153 := ⟨Tryz.f153, Tryz.func153, by kernel_rfl, by kernel_rfl⟩
theorem cRSize (s : AS) : HPure Tryz.prog 153 [pA s] (prOf [pI (bsz s)]) := by
 refine hpure_of (nt := 6) Tryzok Tryz.func153 rfl rfl l9 ?_; refine hw_seq ?_; refine gy ?_; refine qy ?_; refine rg_nil ?_; refine hw_seq ?_; refine gy ?_; refine qy ?_
 refine rc rfl rfl rfl rfl rfl rfl good185 (cRMem s) (CoL.refl _) rfl rfl ?_; (iterate 2 refine qy ?_); refine rg_nil ?_; refine hw_ret ?_; refine ⟨.inr rfl, ?_⟩
 exact f9 rfl rfl (⟨cci (by rw [bsz_membs]), trivial⟩)
theorem good159 : goodFn Tryz.prog 159 := ⟨Tryz.f159, Tryz.func159, by kernel_rfl, by kernel_rfl⟩
theorem cMem (s0 : AS) : HPure Tryz.prog 159 [pA s0] (prOf [pP (il (membs s0))]) := by
 refine hpure_of (nt := 16) Tryzok Tryz.func159 rfl rfl l9 ?_; refine hw_seq ?_; refine gy ?_; refine qy ?_; refine rg_nil ?_; refine hw_seq ?_; refine gy ?_; refine qy ?_; refine rg_nil ?_; refine hw_seq ?_; refine hw_block ?_
 refine hw_adopt 3 900 true 1 3 (lf iC []) (by decide) rfl (CoP.sl rfl (.inr rfl) (fun h => h) (fun i j hi _ => absurd hi (Nat.not_lt_zero i))) (.inr rfl) rfl ?_
 refine hw_loopK (ι := List Nat × AS) ⟨[], []⟩ ⟨trivial, trivial⟩ (fun x => ⟨[(3, some (.v (.one (.ref 900 x.1.length)))), (0, some (vA x.2))], [(900, some (.arr true 1 3 x.1.length (lf iC x.1)))]⟩) (fun x => x.1 ++ membs x.2 = membs s0) (fun x => x.2.toNat) (([], s0)) (rfl) ⟨⟨zy, zy, trivial⟩, ⟨u9, trivial⟩⟩ ?_
 rintro x hx
 have hlen := membs_len x hx
 (iterate 2 refine hw_seq ?_); refine gy ?_; (iterate 2 refine qy ?_); refine rg_nil ?_; refine hw_cond _ rfl (fun r0 => ?_) (fun r0 => ?_)
 ·
  have h0 := r0
  have h0 := of_decide_eq_false (not_t h0)
  try simp only [ty] at h0
  have hne : x.2 ≠ 0 := fun e => h0 (by rw [e]; rfl)
  refine hw_skip ?_; refine hw_seq ?_; refine hw_block ?_; refine gy ?_; (iterate 2 refine qy ?_); refine rc rfl rfl rfl rfl rfl rfl good190 (cTz x.2) (CoL.refl _) rfl rfl ?_; refine m9 0 ?_
  refine ra 1 true rfl rfl rfl rfl rfl rfl ?_; refine qy ?_; refine rg_nil ?_; refine gy ?_; (iterate 2 refine qy ?_); refine rq rfl rfl rfl rfl rfl ?_ (hp := (pred_pre hne)); (iterate 2 refine qy ?_); refine rg_nil ?_
  refine ⟨(x.1 ++ [lowB x.2], x.2 &&& (x.2 - 1)), ?_, ?_, ?_⟩
  · show (x.1 ++ [lowB x.2]) ++ membs (x.2 &&& (x.2 - 1)) = membs s0
    rw [← hx, membs_low hne, List.append_assoc]; rfl
  · exact low_less hne
  · exact ⟨⟨⟨_, rfl, (ref_app rfl)⟩, ⟨_, rfl, (cor_i (and_pred hne))⟩, trivial⟩, ⟨⟨_, rfl, (arr_app1 rfl (CoP.refl _))⟩, trivial⟩⟩
 ·
  have h0 := r0
  have h0 := of_decide_eq_true (not_f h0)
  try simp only [ty] at h0
  have hz : x.2 = 0 := asI_inj.1 h0
  refine hw_exit ?_; refine hw_seq ?_; refine gy ?_; (iterate 2 refine qy ?_); refine rg_nil ?_; refine hw_freeze 2 rfl rfl rfl ?_; refine hw_ret ?_; refine ⟨.inr rfl, ?_⟩
  exact f9 rfl rfl (⟨CoC.one (CoP.of_eq (by rw [hz, membs_zero, List.append_nil] at hx; rw [← hx]; rfl)), trivial⟩)
theorem good158 : goodFn Tryz.prog 158 := ⟨Tryz.f158, Tryz.func158, by kernel_rfl, by kernel_rfl⟩
theorem cOnes (s : AS) : HPure Tryz.prog 158 [pA s] (prOf [pI (bsz s)]) := by
 refine hpure_of (nt := 21) Tryzok Tryz.func158 rfl rfl l9 ?_; refine hw_seq ?_; refine gy ?_; refine qy ?_; refine rg_nil ?_; refine hw_seq ?_
 refine hw_draw (E := TryzE) Tryzok Tryzmixed [0, 1, 2, 3, 4, 5, 6, 7, 8, 9, 10, 11, 12, 13, 14, 15, 16, 17, 18] ?_; (iterate 2 refine qy ?_); refine rq rfl rfl rfl rfl rfl ?_ (hp := (ix24 s (by decide +kernel)))
 (iterate 3 refine qy ?_); refine rq rfl rfl rfl rfl rfl ?_ (hp := (ixM s 16 (by omega) (by decide +kernel))); refine rqw rfl rfl rfl rfl rfl ?_; (iterate 3 refine qy ?_)
 refine rq rfl rfl rfl rfl rfl ?_ (hp := (ixM s 8 (by omega) (by decide +kernel))); refine rqw rfl rfl rfl rfl rfl ?_; (iterate 2 refine qy ?_); refine rq rfl rfl rfl rfl rfl ?_ (hp := (ixL s (by decide +kernel)))
 (iterate 2 refine rqw rfl rfl rfl rfl rfl ?_); refine qy ?_; refine rg_nil ?_; refine ⟨by kernel_rfl, ?_⟩; refine hw_ret ?_; refine ⟨.inr rfl, ?_⟩
 exact f9 rfl rfl (⟨cci (ones_v (by decide +kernel) (byteN s 24 (by omega)) (byteM s 16 (by omega)) (byteM s 8 (by omega)) (byteL s)), trivial⟩)
theorem good106 : goodFn Tryz.prog 106 := ⟨Tryz.f106, Tryz.func106, by kernel_rfl, by kernel_rfl⟩
theorem cSize (s : AS) : HPure Tryz.prog 106 [pA s] (prOf [pI (bsz s)]) := by
 refine hpure_of (nt := 5) Tryzok Tryz.func106 rfl rfl l9 ?_; refine hw_seq ?_; refine gy ?_; refine qy ?_; refine rg_nil ?_; refine hw_seq ?_; refine gy ?_; refine qy ?_
 refine rc rfl rfl rfl rfl rfl rfl good158 (cOnes s) (CoL.refl _) rfl rfl ?_; refine qy ?_; refine rg_nil ?_; refine hw_ret ?_; refine ⟨.inr rfl, ?_⟩
 exact f9 rfl rfl (CoL.refl _)
end Go.Hx
end
section
namespace Go.Hx
def insK (l : List AS) (k : Nat) (r : AS) : List AS := l.take k ++ r :: l.drop k
theorem insK_len {l : List AS} {k : Nat} {r : AS} (h : k ≤ l.length) : (insK l k r).length = l.length + 1 := by simp [insK]; omega
theorem insK_end {l : List AS} {r : AS} : insK l l.length r = l ++ [r] := by simp [insK]
theorem insK_get {l : List AS} {k i : Nat} {r : AS} (h : k ≤ l.length) : (insK l k r)[i]? = if i < k then l[i]? else if i = k then some r else l[i - 1]? := by
 simp only [insK]
 by_cases h1 : i < k
 · rw [if_pos h1, List.getElem?_append_left (by simp; omega), List.getElem?_take, if_pos h1]
 · rw [if_neg h1, List.getElem?_append_right (by simp; omega), List.length_take, Nat.min_eq_left h]
   by_cases h2 : i = k
   · subst h2; simp
   · rw [if_neg h2]
     obtain ⟨d, rfl⟩ : ∃ d, i = k + 1 + d := ⟨i - k - 1, by omega⟩
     rw [show k + 1 + d - k = d + 1 by omega, List.getElem?_cons_succ, List.getElem?_drop]
     congr 1
     omega
theorem insK_k {l : List AS} {k : Nat} {r : AS} (h : k ≤ l.length) : (insK l k r).getD k default = r := by
 rw [List.getD_eq_getElem?_getD, insK_get h, if_neg (by omega), if_pos rfl]; rfl
theorem insK_pred {l : List AS} {k : Nat} {r : AS} (h0 : 0 < k) (h : k ≤ l.length) : (insK l k r).getD (k - 1) default = l.getD (k - 1) default := by
 rw [List.getD_eq_getElem?_getD, insK_get h, if_pos (by omega), List.getD_eq_getElem?_getD]
theorem insK_swap {l : List AS} {k : Nat} {r : AS} (h0 : 0 < k) (h : k ≤ l.length) : ((insK l k r).set k (l.getD (k - 1) default)).set (k - 1) r = insK l (k - 1) r := by
 apply List.ext_getElem?
 intro i
 rw [insK_get (by omega), List.getElem?_set, List.getElem?_set, List.length_set, insK_len h, insK_get h]
 by_cases h1 : k - 1 = i
 · subst h1
   rw [if_pos rfl, if_pos (by omega), if_neg (by omega), if_pos rfl]
 · rw [if_neg h1]
   by_cases h2 : k = i
   · subst h2
     rw [if_pos rfl, if_pos (by omega), if_neg (by omega), if_neg (by omega), List.getD, List.getElem?_eq_getElem (by omega)]
     rfl
   · rw [if_neg h2]
     by_cases h3 : i < k
     · rw [if_pos h3, if_pos (by omega)]
     · rw [if_neg h3, if_neg (by omega), if_neg (by omega), if_neg (by omega)]
theorem swap_insK {l : List AS} {k k' m' : Nat} {r : AS} (h0 : 0 < k) (hk : k ≤ l.length) (hk' : k' = k) (hm' : m' = k - 1) {n : Nat} (hn : n = l.length + 1) {e : TypeId} :
 CoO (.arr true 1 e n (setEl (setEl (lf sC (insK l k r)) k' 0 [lf sC (insK l k r) m' 0]) m' 0 [lf sC (insK l k r) k' 0])) (.arr true 1 e n (lf sC (insK l (k - 1) r))) := by
 subst hk' hm'
 rw [← insK_swap h0 hk]
 refine swap_co (fun h => h) (by rw [insK_len hk]; exact hn) (by rw [insK_len hk]; omega) (by rw [insK_len hk]; omega) rfl rfl (fun j hj => ?_) (fun j hj => ?_)
 · obtain rfl : j = 0 := by omega
   exact CoP.of_eq (by show sC ((insK l k' r).getD (k' - 1) default) 0 = _; rw [insK_pred h0 hk])
 · obtain rfl : j = 0 := by omega
   exact CoP.of_eq (by show sC ((insK l k' r).getD k' default) 0 = _; rw [insK_k hk])
theorem bef_at {l : List AS} {k k' m' : Nat} {r : AS} {b : Bool} (h0 : 0 < k) (hk : k ≤ l.length) (h : bef ((insK l k r).getD k' default) ((insK l k r).getD m' default) = b) (hk' : k' = k) (hm' : m' = k - 1) : bef r (l.getD (k - 1) default) = b := by
 subst hk' hm'
 rwa [insK_k hk, insK_pred h0 hk] at h
theorem getD_mem {l : List AS} {j : Nat} (h : j < l.length) : l.getD j default ∈ l := by
 rw [List.getD_eq_getElem?_getD, List.getElem?_eq_getElem h]
 exact List.getElem_mem h
theorem insK_insO {l : List AS} {k : Nat} {r : AS} (hs : Ordd l) (hr : r ∉ l) (hk : k ≤ l.length) (h1 : ∀ j, k ≤ j → j < l.length → bef r (l.getD j default) = true) (h2 : k = 0 ∨ ¬ bef r (l.getD (k - 1) default) = true) : insK l k r = insO r l := by
 refine ordd_unique ?_ (ordd_insO hs) fun z => ?_
 · unfold Ordd insK
   rw [List.pairwise_append]
   refine ⟨hs.sublist (List.take_sublist _ _), List.pairwise_cons.2 ⟨fun z hz => ?_, hs.sublist (List.drop_sublist _ _)⟩, fun y hy z hz => ?_⟩
   · obtain ⟨j, hj, rfl⟩ := List.getElem_of_mem hz
     rw [List.length_drop] at hj
     have := h1 (k + j) (by omega) (by omega)
     rwa [List.getD_eq_getElem?_getD, List.getElem?_eq_getElem (by omega), Option.getD_some, ← List.getElem_drop] at this
   · have hyr : bef y r = true := by
      obtain ⟨j, hj, rfl⟩ := List.getElem_of_mem hy
      rw [List.length_take] at hj
      rcases h2 with h2 | h2
      · omega
      · have hk1 : k - 1 < l.length := by omega
        have hlast : bef (l.getD (k - 1) default) r = true := by
         rcases bef_tri (a := r) (b := l.getD (k - 1) default) (fun e => hr (e ▸ getD_mem hk1)) with h | h
         · exact absurd h h2
         · exact h
        rw [List.getElem_take]
        by_cases hjk : j = k - 1
        · subst hjk
          rwa [List.getD_eq_getElem?_getD, List.getElem?_eq_getElem hk1, Option.getD_some] at hlast
        · refine bef_trans ?_ hlast
          rw [List.getD_eq_getElem?_getD, List.getElem?_eq_getElem hk1, Option.getD_some]
          exact List.pairwise_iff_getElem.1 hs j (k - 1) (by omega) hk1 (by omega)
     rcases List.mem_cons.1 hz with rfl | hz
     · exact hyr
     · have h3 : bef r z = true := by
        obtain ⟨j, hj, rfl⟩ := List.getElem_of_mem hz
        rw [List.length_drop] at hj
        have := h1 (k + j) (by omega) (by omega)
        rwa [List.getD_eq_getElem?_getD, List.getElem?_eq_getElem (by omega), Option.getD_some, ← List.getElem_drop] at this
       exact bef_trans hyr h3
 · rw [mem_insO]
   unfold insK
   rw [List.mem_append, List.mem_cons]
   constructor
   · rintro (h | h | h)
     · exact .inr (List.mem_of_mem_take h)
     · exact .inl h
     · exact .inr (List.mem_of_mem_drop h)
   · rintro (h | h)
     · exact .inr (.inl h)
     · rw [← List.take_append_drop k l, List.mem_append] at h
       rcases h with h | h
       · exact .inl h
       · exact .inr (.inr h)
theorem insO_mem {r : AS} {l : List AS} (hs : Ordd l) (hr : r ∈ l) : insO r l = l := ordd_unique (ordd_insO hs) hs fun z => by
 rw [mem_insO]
 constructor
 · rintro (rfl | h)
   · exact hr
   · exact h
 · exact .inr
theorem ord_take {l : List AS} {i : Nat} (hi : i < l.length) : ord (l.take (i + 1)) = insO (l.getD i default) (ord (l.take i)) := by
 unfold ord
 rw [take_snoc hi, List.foldl_append]
 rfl
theorem insO_len (x : AS) : ∀ l : List AS, (insO x l).length ≤ l.length + 1
 | [] => by simp [insO]
 | y :: l => by
  unfold insO
  have := insO_len x l
  split
  · simp
  · split
    · simp
    · simp only [List.length_cons]; omega
theorem ord_len (l : List AS) : (ord l).length ≤ l.length := by
 have : ∀ (l o : List AS), (l.foldl (fun o x => insO x o) o).length ≤ o.length + l.length := by
  intro l
  induction l with
  | nil => intro o; simp
  | cons x l ih =>
   intro o
   have h1 := ih (insO x o)
   have h2 := insO_len x o
   simp only [List.foldl_cons, List.length_cons]
   omega
 have h := this l []
 simpa [ord] using h
theorem any_mem {l : List AS} {s : AS} : (l.any fun x => decide (x = s)) = decide (s ∈ l) := by
 rw [Bool.eq_iff_iff, List.any_eq_true, decide_eq_true_iff]
 constructor
 · rintro ⟨x, hx, h⟩
   exact of_decide_eq_true h ▸ hx
 · intro h
   exact ⟨s, h, decide_eq_true rfl⟩
def jC : Int → Nat → PV := fun n _ => .raw (.int .i64 n)
def orF (l : List Int) : Int := (l.find? fun x => decide (x ≠ 0)).getD 0
theorem orF_t {l : List Int} {i : Nat} (hi : i < l.length) (hI : ∀ j, j < i → decide (l.getD j default = 0) = true) (h : ¬ l.getD i default = 0) : orF l = l.getD i default := by
 unfold orF
 have : l.find? (fun x => decide (x ≠ 0)) = some (l.getD i default) := by
  rw [List.find?_eq_some_iff_getElem]
  refine ⟨decide_eq_true h, i, hi, by simp [List.getD, hi], fun j hj => ?_⟩
  have := of_decide_eq_true (hI j hj)
  rw [List.getD_eq_getElem?_getD, List.getElem?_eq_getElem (by omega), Option.getD_some] at this
  simp [this]
 rw [this]; rfl
theorem orF_f {l : List Int} (hI : ∀ j, j < l.length → decide (l.getD j default = 0) = true) : orF l = 0 := by
 unfold orF
 have : l.find? (fun x => decide (x ≠ 0)) = none := by
  rw [List.find?_eq_none]
  intro x hx
  obtain ⟨j, hj, rfl⟩ := List.getElem_of_mem hx
  have := of_decide_eq_true (hI j hj)
  rw [List.getD_eq_getElem?_getD, List.getElem?_eq_getElem hj, Option.getD_some] at this
  simp [this]
 rw [this]; rfl
theorem cmpS_or (a b : AS) : orF [cmpI (bsz a) (bsz b), cmpI (asI a) (asI b)] = cmpS a b := by
 unfold orF cmpS
 by_cases h : cmpI (bsz a) (bsz b) = 0
 · by_cases h2 : cmpI (asI a) (asI b) = 0 <;> simp [h, h2]
 · simp [h]
theorem co_lit2 {α : Type} [Inhabited α] {cl : Bool} {c : α → Nat → PV} {x y : α} {f : Nat → Nat → PV} (h0 : CoP (f 0 0) (c x 0)) (h1 : CoP (f 1 0) (c y 0)) : CoP (.sl 2 1 cl f) (psl 1 c [x, y]) :=
 CoP.sl rfl (.inl rfl) (fun h => by cases h) fun i j hi hj => by
  obtain rfl : j = 0 := by omega
  rcases (by omega : i = 0 ∨ i = 1) with rfl | rfl
  · exact h0
  · exact h1
theorem bef_ne {a b : AS} (h : ¬ (bsz a : Int) = bsz b) : decide ((bsz a : Int) < bsz b) = bef a b := by
 rw [Bool.eq_iff_iff, decide_eq_true_iff, bef_iff]
 omega
theorem bef_eq {a b : AS} (h : (bsz a : Int) = bsz b) : decide (asI a < asI b) = bef a b := by
 rw [Bool.eq_iff_iff, decide_eq_true_iff, bef_iff]
 unfold asI
 omega
theorem app_end {α : Type} [Inhabited α] {wr wr' : Bool} {e : TypeId} {c : α → Nat → PV} {l : List α} {x : α} {g : Nat → Nat → PV} (hg : CoP (g 0 0) (c x 0)) (hw : wr' = true → wr = true := by exact fun h => h) :
 CoO (.arr wr 1 e (l.length + 1) (appF l.length (lf c l) g)) (.arr wr' 1 e (l.length + 1) (lf c (l ++ [x]))) := by
 have h := arr_app1 (wr := wr) (wr' := wr') (e := e) (l := l) (l' := l ++ [x]) (g := g) rfl hg hw
 rwa [show (l ++ [x]).length = l.length + 1 by simp] at h
theorem arr_len {α : Type} [Inhabited α] {wr wr' : Bool} {s n m : Nat} {e : TypeId} {c : α → Nat → PV} {l l' : List α} (h : l' = l) (hn : n = m) (hw : wr' = true → wr = true := by exact fun h => h) : CoO (.arr wr s e n (lf c l)) (.arr wr' s e m (lf c l')) := by
 subst h hn
 exact ⟨hw, rfl, rfl, rfl, fun _ _ _ _ => CoP.refl _⟩
theorem cmpS_bef {a b : AS} : decide (cmpS a b < 0) = bef a b := by
 rw [Bool.eq_iff_iff, decide_eq_true_iff, bef_iff]
 unfold cmpS cmpI asI
 split <;> (repeat' split) <;> omega
end Go.Hx
end
