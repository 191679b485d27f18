/- A part of the proof: LyTz TzW Cs7 Cs8 V6 Cs9 V7. -/
import Derived.Shelf.Lays7
import Derived.Shelf.Spec.TrailingZeros
import Derived.Test.YtidophngianjiaaGreatDoorProg
import Derived.Test.YtidophngianjiaaGreatDoor10x17
set_option linter.all false
section
namespace Go.Proofs
open Go.Shelf
def Tryz.lays28_ren : Go.Shelf.Ren := ⟨fun | 28 => 190 | n => n, fun | 27 => 37 | 3 => 3 | 4 => 4 | 25 => 137 | 53 => 213 | 0 => 0 | 5 => 5 | n => n, fun | 0 => 0 | n => n⟩
theorem Tryz.lays28 : Go.Proofs.Lays7.n28 Tryz.prog Tryz.lays28_ren := {
 mixed := by kernel_rfl
 f28 := Tryz.func190.trans (congrArg some (by kernel_rfl))
 t0 := Tryz.underlying0
 a0 := Tryz.isAgg0
 z0 := Tryz.sizeOf0
 v0 := Tryz.zeroValue0
 i0 := by kernel_rfl
 t3 := Tryz.underlying3
 a3 := Tryz.isAgg3
 z3 := Tryz.sizeOf3
 v3 := Tryz.zeroValue3
 i3 := by kernel_rfl
 t4 := Tryz.underlying4
 a4 := Tryz.isAgg4
 z4 := Tryz.sizeOf4
 v4 := Tryz.zeroValue4
 i4 := by kernel_rfl
 t5 := Tryz.underlying5
 a5 := Tryz.isAgg5
 z5 := Tryz.sizeOf5
 v5 := Tryz.zeroValue5
 i5 := by kernel_rfl
 t25 := Tryz.underlying137
 a25 := Tryz.isAgg137
 z25 := Tryz.sizeOf137
 v25 := Tryz.zeroValue137
 i25 := by kernel_rfl
 t27 := Tryz.underlying37
 a27 := Tryz.isAgg37
 z27 := Tryz.sizeOf37
 v27 := Tryz.zeroValue37
 i27 := by kernel_rfl
 t53 := Tryz.underlying213
 a53 := Tryz.isAgg213
 z53 := Tryz.sizeOf213
 v53 := Tryz.zeroValue213
 i53 := by kernel_rfl
 g0 := by kernel_rfl }
end Go.Proofs
end
section
namespace Go.Hx
open Go.Proofs Go.RowKit
set_option maxRecDepth 100000
theorem auy : goodFn Tryz.prog 190 := ⟨Tryz.f190, Tryz.func190, by kernel_rfl, by kernel_rfl⟩
theorem b1p : ∀ j, j < Lib.deBruijn32tab.length → s7 0 j = some (.int .u8 (Lib.deBruijn32tab.getD j 0)) := fun j hj => by
 unfold s7
 rw [show p9 0 = Lib.deBruijn32tab.map (fun k : Nat => Value.int .u8 (k : Int)) from rfl, List.getElem?_map, List.getElem?_eq_getElem hj, List.getD_eq_getElem?_getD, List.getElem?_eq_getElem hj]
 rfl
theorem cTz (s : AS) : ah Tryz.prog 190 [pA s] (ap [pI (en s)]) := by
 intro w imm us htab him hus
 match us, hus with
 | [u], ⟨hu, _⟩ =>
  obtain ⟨rfl, _⟩ := hu
  have h := Any7.bits_TrailingZeros32 Tryz.lays28 s.toNat s.isLt w fun _ j hj => by
   have hc := htab 0 j _ (b1p j hj)
   unfold ic at hc
   cases hb : imm 0 with
   | none => rw [hb] at hc; cases hc
   | some ob =>
    rw [hb] at hc
    have hw := him 0 ob hb
    cases ob <;> simp at hc
    show w.cell? ⟨0, j, none⟩ = _
    simp [World.cell?, hw, hc]
  refine h.mono ?_
  rintro e w' ⟨rfl, rfl⟩
  exact ⟨_, imm, rfl, ⟨rfl, rfl⟩, fun _ _ => rfl, him, Below.refl _ _⟩
 | [], h => exact h.elim
 | _ :: _ :: _, ⟨_, h⟩ => exact h.elim
end Go.Hx
end
section
namespace Go.Hx
section
variable {α : Type} [Inhabited α]
theorem a1g {wr wr' : Bool} {s m : Nat} {e : TypeId} {c : α → Nat → PV} {l l' : List α} {x : α} {g : Nat → Nat → PV} (h : l' = l ++ [x]) (hg : ∀ j, j < s → CoP (g 0 j) (c x j)) (hm : m = 1 := by rfl) (hw : wr' = true → wr = true := by exact fun h => h) :
 CoO (.arr wr s e (l.length + m) (fw l.length (lf c l) g)) (.arr wr' s e l'.length (lf c l')) := by
 subst h
 refine am8 [x] hw hm fun i j hi hj => ?_
 obtain rfl : i = 0 := by simp at hi; exact hi
 exact hg j hj
theorem dy {wr wr' : Bool} {s : Nat} {e : TypeId} {c : α → Nat → PV} {l l' : List α} (h : l' = l) (hw : wr' = true → wr = true := by exact fun h => h) : CoO (.arr wr s e l.length (lf c l)) (.arr wr' s e l'.length (lf c l')) := by
 subst h
 exact ⟨hw, rfl, rfl, rfl, fun _ _ _ _ => CoP.refl _⟩
end
section
variable {α : Type} [Inhabited α]
theorem dc {id : Nat} {l l' : List α} {x : α} (h : l' = l ++ [x]) : CoR (.v (.one (.ref id (l.length + 1)))) (.v (.one (.ref id l'.length))) := by subst h; rw [List.length_append]; exact CoR.refl _
theorem fu {id : Nat} {l l' : List α} (h : l' = l) : CoR (.v (.one (.ref id l.length))) (.v (.one (.ref id l'.length))) := by subst h; exact CoR.refl _
theorem ew {wr wr' : Bool} {e : TypeId} {c : α → Nat → PV} {l l' : List α} {x : α} {g : Nat → Nat → PV} (h : l' = l ++ [x]) (hg : CoP (g 0 0) (c x 0)) (hw : wr' = true → wr = true := by exact fun h => h) :
 CoO (.arr wr 1 e (l.length + 1) (fw l.length (lf c l) g)) (.arr wr' 1 e l'.length (lf c l')) :=
 a1g h (fun j hj => by
  obtain rfl : j = 0 := by omega
  exact hg) rfl hw
theorem j3 {wr wr' : Bool} {e : TypeId} {c : α → Nat → PV} {l l' : List α} {x : α} {g : Nat → Nat → PV} (h : l' = l ++ [x]) (h0 : CoP (g 0 0) (c x 0)) (h1 : CoP (g 0 1) (c x 1)) (hw : wr' = true → wr = true := by exact fun h => h) :
 CoO (.arr wr 2 e (l.length + 1) (fw l.length (lf c l) g)) (.arr wr' 2 e l'.length (lf c l')) :=
 a1g h (fun j hj => by
  rcases (by omega : j = 0 ∨ j = 1) with rfl | rfl
  · exact h0
  · exact h1) rfl hw
end
def fh (s : AS) (i : Nat) : List Nat := (List.range i).filter fun k => s.getLsbD k
theorem ss {s : AS} {i : Nat} (hi : i < 32) (h : cn s (i : Int) = true) : fh s (i + 1) = fh s i ++ [i] := by
 rw [ff hi] at h
 unfold fh
 rw [List.range_succ, List.filter_append]
 simp [h]
theorem a1v {s : AS} {i : Nat} (hi : i < 32) (h : cn s (i : Int) = false) : fh s (i + 1) = fh s i := by
 rw [ff hi] at h
 unfold fh
 rw [List.range_succ, List.filter_append]
 simp [h]
end Go.Hx
end
section
namespace Go.Hx
def mi (b : Nat) : Nat := (List.range 8).countP fun i => b.testBit i
theorem ni (p : Nat → Bool) (a b : Nat) : (List.range (a + b)).countP p = (List.range a).countP p + (List.range b).countP fun i => p (a + i) := by
 rw [List.range_add, List.countP_append, List.countP_map]
 rfl
theorem ar4 {n k j : Nat} (hj : j < 8) : (n / 2 ^ k % 256).testBit j = n.testBit (k + j) := by
 rw [show (256 : Nat) = 2 ^ 8 from rfl, Nat.testBit_mod_two_pow, Nat.testBit_div_two_pow, Nat.add_comm]
 simp [hj]
theorem axw (n : Nat) (hn : n < 2 ^ 32) : (List.range (8 + (8 + (8 + 8)))).countP (fun i => n.testBit i) = mi (n / 2 ^ 24) + mi (n / 2 ^ 16 % 256) + mi (n / 2 ^ 8 % 256) + mi (n % 256) := by
 have h : ∀ k, (List.range 8).countP (fun i => n.testBit (k + i)) = mi (n / 2 ^ k % 256) := fun k => by
  unfold mi
  apply List.countP_congr
  intro j hj
  rw [ar4 (List.mem_range.1 hj)]
 have h3 : n / 2 ^ 24 % 256 = n / 2 ^ 24 := Nat.mod_eq_of_lt (by omega)
 have h0 := h 0
 simp only [Nat.zero_add, Nat.pow_zero, Nat.div_one] at h0
 rw [ni, ni, ni, h0]
 have e2 := h 8
 have e3 := h 16
 have e4 := h 24
 rw [h3] at e4
 simp only [← Nat.add_assoc] at *
 simp only [Nat.reduceAdd] at *
 rw [e2, e3, e4]
 omega
theorem amh (s : AS) : bsz s = mi (s.toNat / 2 ^ 24) + mi (s.toNat / 2 ^ 16 % 256) + mi (s.toNat / 2 ^ 8 % 256) + mi (s.toNat % 256) := axw s.toNat s.isLt
theorem a0y (b : Nat) : mi b ≤ 8 := by
 have := List.countP_le_length (p := fun i => b.testBit i) (l := List.range 8)
 rwa [List.length_range] at this
theorem as4 (s : AS) (k : Nat) (hk : k ≤ 32) : ((asI s).fdiv (2 ^ (min k 32))).toNat = s.toNat / 2 ^ k := by
 rw [a3c]
 show (((s >>> k).toNat : Nat) : Int).toNat = _
 rw [Int.toNat_natCast, BitVec.toNat_ushiftRight, Nat.shiftRight_eq_div_pow]
theorem agx (s : AS) (k : Nat) (hk : k ≤ 32) : (ca .and .u32 ((asI s).fdiv (2 ^ (min k 32))) 255).toNat = s.toNat / 2 ^ k % 256 := by
 rw [a3c, show (255 : Int) = asI 255 from rfl, o8]
 show (((s >>> k &&& 255).toNat : Nat) : Int).toNat = _
 rw [Int.toNat_natCast, BitVec.toNat_and, BitVec.toNat_ushiftRight, Nat.shiftRight_eq_div_pow, show (255 : AS).toNat = 2 ^ 8 - 1 from rfl, Nat.and_two_pow_sub_one_eq_mod]
theorem ars (s : AS) : (ca .and .u32 (asI s) 255).toNat = s.toNat % 256 := by
 rw [show (255 : Int) = asI 255 from rfl, o8]
 show (((s &&& 255).toNat : Nat) : Int).toNat = _
 rw [Int.toNat_natCast, BitVec.toNat_and, show (255 : AS).toNat = 2 ^ 8 - 1 from rfl, Nat.and_two_pow_sub_one_eq_mod]
theorem amz (a b : Int) : 0 ≤ ca .and .u32 a b := by
 show 0 ≤ IntKind.wrap .u32 _
 rw [ad1 (Int.natCast_nonneg _) (by have := (BitVec.ofInt 32 a &&& BitVec.ofInt 32 b).isLt; show ((BitVec.ofInt 32 a &&& BitVec.ofInt 32 b).toNat : Int) < _; omega)]
 exact Int.natCast_nonneg _
theorem auk (s : AS) (k : Nat) : 0 ≤ (asI s).fdiv (2 ^ (min k 32)) := by rw [a3c]; exact a0p _
theorem b2k {X : ByteArray} (s : AS) (hX : (256 : Int) ≤ X.size) : 0 ≤ (asI s).fdiv (2 ^ (min 24 32)) ∧ (asI s).fdiv (2 ^ (min 24 32)) < X.size := by
 have h1 := auk s 24
 have h2 := as4 s 24 (by omega)
 have := s.isLt
 exact ⟨h1, by omega⟩
theorem ixM {X : ByteArray} (s : AS) (k : Nat) (hk : k ≤ 32) (hX : (256 : Int) ≤ X.size) : 0 ≤ ca .and .u32 ((asI s).fdiv (2 ^ (min k 32))) 255 ∧ ca .and .u32 ((asI s).fdiv (2 ^ (min k 32))) 255 < X.size := by
 have h1 := amz ((asI s).fdiv (2 ^ (min k 32))) 255
 have h2 := agx s k hk
 exact ⟨h1, by omega⟩
theorem ixL {X : ByteArray} (s : AS) (hX : (256 : Int) ≤ X.size) : 0 ≤ ca .and .u32 (asI s) 255 ∧ ca .and .u32 (asI s) 255 < X.size := by
 have h1 := amz (asI s) 255
 have h2 := ars s
 exact ⟨h1, by omega⟩
theorem a6b {n : Int} (h0 : 0 ≤ n) (h1 : n < 256) : IntKind.wrap .u8 n = n := lp (by simp only [inR, oq, qq]; omega)
theorem alm {n : Int} (h0 : 0 ≤ n) (h1 : n < 256) : IntKind.wrap .i64 n = n := lp (by simp only [inR, oq, qq]; omega)
theorem b0f {X : ByteArray} {s : AS} {i0 i1 i2 i3 : Nat} (hX : ∀ b, b < 256 → ku X b = (mi b : Int)) (h0 : i0 = s.toNat / 2 ^ 24) (h1 : i1 = s.toNat / 2 ^ 16 % 256) (h2 : i2 = s.toNat / 2 ^ 8 % 256) (h3 : i3 = s.toNat % 256) :
 IntKind.wrap .i64 (IntKind.wrap .u8 (IntKind.wrap .u8 (IntKind.wrap .u8 (ku X i0 + ku X i1) + ku X i2) + ku X i3)) = (bsz s : Int) := by
 have := s.isLt
 subst h0 h1 h2 h3
 rw [hX _ (by omega), hX _ (by omega), hX _ (by omega), hX _ (by omega)]
 have a0 := a0y (s.toNat / 2 ^ 24)
 have a1 := a0y (s.toNat / 2 ^ 16 % 256)
 have a2 := a0y (s.toNat / 2 ^ 8 % 256)
 have a3 := a0y (s.toNat % 256)
 rw [amh]
 generalize mi (s.toNat / 2 ^ 24) = c0 at *
 generalize mi (s.toNat / 2 ^ 16 % 256) = c1 at *
 generalize mi (s.toNat / 2 ^ 8 % 256) = c2 at *
 generalize mi (s.toNat % 256) = c3 at *
 rw [a6b (n := c0 + c1) (by omega) (by omega), a6b (n := c0 + c1 + c2) (by omega) (by omega), a6b (n := c0 + c1 + c2 + c3) (by omega) (by omega), alm (n := c0 + c1 + c2 + c3) (by omega) (by omega)]
 omega
theorem al2 (s : AS) : bsz s ≤ 32 := by
 have := List.countP_le_length (p := fun i => s.getLsbD i) (l := List.range 32)
 rwa [List.length_range] at this
theorem alb {s0 : AS} (x : List Nat × AS) (h : x.1 ++ b5 x.2 = b5 s0) : x.1.length ≤ 32 := by
 have h1 := congrArg List.length h
 rw [List.length_append, ← a9d s0] at h1
 have := al2 s0
 omega
theorem aae {s : AS} (h : s ≠ 0) : asI s - 1 = asI (s - 1) := by
 have h0 : s.toNat ≠ 0 := fun e => h (BitVec.eq_of_toNat_eq e)
 have := s.isLt
 have e1 : (s - 1).toNat = s.toNat - 1 := by
  rw [BitVec.toNat_sub]
  show (2 ^ 32 - 1 + s.toNat) % 2 ^ 32 = _
  omega
 unfold asI
 rw [e1]
 omega
theorem xb {s : AS} (h : s ≠ 0) : (ig true .u32 (asI s - 1)).1 := by
 rw [aae h]
 have h1 := a0p (s - 1)
 have h2 := a4h (s - 1)
 simp only [ig, inR, oq, qq]
 omega
theorem a3y {s : AS} (h : s ≠ 0) : ca .and .u32 (asI s) (asI s - 1) = asI (s &&& (s - 1)) := by rw [aae h, o8]
def ij (a b : Int) : Int := if a < b then -1 else if b < a then 1 else 0
def xf (a b : AS) : Int := if ij (bsz a) (bsz b) = 0 then ij (asI a) (asI b) else ij (bsz a) (bsz b)
end Go.Hx
end
section
namespace Go.Hx
open Go.Proofs
set_option maxRecDepth 100000
theorem a6z : goodFn Tryz.prog 159 := ⟨Tryz.f159, Tryz.func159, by kernel_rfl, by kernel_rfl⟩
theorem aox (s0 : AS) : ah Tryz.prog 159 [pA s0] (ap [pP (il (b5 s0))]) := by
 refine ag (nt := 16) af Tryz.func159 rfl rfl l9 ?_; refine sx7 ?_; refine qy ?_; refine a6 ?_; refine sx7 ?_; refine qy ?_; refine a6 ?_; refine a7 ?_; refine ae ?_
 refine dp 3 900 true 1 3 (lf iC []) (by decide) rfl (CoP.sl rfl (.inr rfl) (fun h => h) (fun i j hi _ => absurd hi (Nat.not_lt_zero i))) (.inr rfl) rfl ?_
 refine ai (ι := List Nat × AS) ⟨[], []⟩ ⟨trivial, trivial⟩ (fun x => ⟨[(3, some (.v (.one (.ref 900 x.1.length)))), (0, some (vA x.2))], [(900, some (.arr true 1 3 x.1.length (lf iC x.1)))]⟩) (fun x => x.1 ++ b5 x.2 = b5 s0) (fun x => x.2.toNat) (([], s0)) (rfl) ⟨⟨zy, zy, trivial⟩, ⟨u9, trivial⟩⟩ ?_
 rintro x hx
 have hlen := alb x hx
 refine a7 ?_; refine sx7 ?_; (iterate 2 refine qy ?_); refine a6 ?_; refine a8 _ rfl (fun r0 => ?_) (fun r0 => ?_)
 ·
  have h0 := r0
  have h0 := of_decide_eq_false (ax h0)
  try simp only [ty] at h0
  have hne : x.2 ≠ 0 := fun e => h0 (by rw [e]; rfl)
  refine aa ?_; refine a7 ?_; refine ae ?_; refine gy ?_; (iterate 2 refine qy ?_); refine rc rfl rfl rfl rfl rfl rfl auy (cTz x.2) (CoL.refl _) rfl rfl ?_; refine m9 0 ?_
  refine ra 1 true rfl rfl rfl rfl rfl rfl ?_; refine qy ?_; refine a6 ?_; refine gy ?_; (iterate 2 refine qy ?_); refine rq rfl rfl rfl rfl rfl ?_ (hp := (xb hne)); (iterate 2 refine qy ?_); refine a6 ?_
  refine ⟨(x.1 ++ [en x.2], x.2 &&& (x.2 - 1)), ?_, ?_, ?_⟩
  · show (x.1 ++ [en x.2]) ++ b5 (x.2 &&& (x.2 - 1)) = b5 s0
    rw [← hx, ajc hne, List.append_assoc]; rfl
  · exact apu hne
  · exact ⟨⟨⟨_, rfl, (dc rfl)⟩, ⟨_, rfl, (c8 (a3y hne))⟩, trivial⟩, ⟨⟨_, rfl, (ew rfl (CoP.refl _))⟩, trivial⟩⟩
 ·
  have h0 := r0
  have h0 := of_decide_eq_true (aw h0)
  try simp only [ty] at h0
  have hz : x.2 = 0 := db.1 h0
  refine ak ?_; refine sx7 ?_; (iterate 2 refine qy ?_); refine a6 ?_; refine br 2 rfl rfl rfl ?_
  exact hx8 rfl rfl rfl (⟨CoC.one (CoP.of_eq (by rw [hz, ahf, List.append_nil] at hx; rw [← hx]; rfl)), trivial⟩)
theorem aul : goodFn Tryz.prog 158 := ⟨Tryz.f158, Tryz.func158, by kernel_rfl, by kernel_rfl⟩
theorem b12 (s : AS) : ah Tryz.prog 158 [pA s] (ap [pI (bsz s)]) := by
 refine ag (nt := 21) af Tryz.func158 rfl rfl l9 ?_; refine sx7 ?_; refine qy ?_; refine a6 ?_; refine a7 ?_
 refine b7 (E := bm) af ar [0, 1, 2, 3, 4, 5, 6, 7, 8, 9, 10, 11, 12, 13, 14, 15, 16, 17, 18] ?_; (iterate 2 refine qy ?_); refine rq rfl rfl rfl rfl rfl ?_ (hp := (b2k s (by decide +kernel)))
 (iterate 3 refine qy ?_); refine rq rfl rfl rfl rfl rfl ?_ (hp := (ixM s 16 (by omega) (by decide +kernel))); refine rqw rfl rfl rfl rfl rfl ?_; (iterate 3 refine qy ?_)
 refine rq rfl rfl rfl rfl rfl ?_ (hp := (ixM s 8 (by omega) (by decide +kernel))); refine rqw rfl rfl rfl rfl rfl ?_; (iterate 2 refine qy ?_); refine rq rfl rfl rfl rfl rfl ?_ (hp := (ixL s (by decide +kernel)))
 (iterate 2 refine rqw rfl rfl rfl rfl rfl ?_); refine qy ?_; refine a6 ?_; refine ⟨by kernel_rfl, ?_⟩
 exact hx8 rfl rfl rfl (⟨cci (b0f (by decide +kernel) (as4 s 24 (by omega)) (agx s 16 (by omega)) (agx s 8 (by omega)) (ars s)), trivial⟩)
theorem afn : goodFn Tryz.prog 106 := ⟨Tryz.f106, Tryz.func106, by kernel_rfl, by kernel_rfl⟩
theorem as5 (s : AS) : ah Tryz.prog 106 [pA s] (ap [pI (bsz s)]) := by
 refine ag (nt := 5) af Tryz.func106 rfl rfl l9 ?_; refine sx7 ?_; refine qy ?_; refine a6 ?_; refine sx7 ?_; refine qy ?_; refine rc rfl rfl rfl rfl rfl rfl aul (b12 s) (CoL.refl _) rfl rfl ?_; refine qy ?_
 refine a6 ?_
 exact hx8 rfl rfl rfl (CoL.refl _)
end Go.Hx
end
section
namespace Go.Hx
def b3p (l : List AS) (k : Nat) (r : AS) : List AS := l.take k ++ r :: l.drop k
theorem acv {l : List AS} {j : Nat} (h : j < l.length) : l.getD j default ∈ l := by
 rw [List.getD_eq_getElem?_getD, List.getElem?_eq_getElem h]
 exact List.getElem_mem h
theorem acb (x : AS) : ∀ l : List AS, (lb x l).length ≤ l.length + 1
 | [] => by simp [lb]
 | y :: l => by
  unfold lb
  have := acb x l
  split
  · simp
  · split
    · simp
    · simp only [List.length_cons]; omega
theorem a14 (l : List AS) : (ord l).length ≤ l.length := by
 have : ∀ (l o : List AS), (l.foldl (fun o x => lb x o) o).length ≤ o.length + l.length := by
  intro l
  induction l with
  | nil => intro o; simp
  | cons x l ih =>
   intro o
   have h1 := ih (lb x o)
   have h2 := acb x o
   simp only [List.foldl_cons, List.length_cons]
   omega
 have h := this l []
 simpa [ord] using h
def jC : Int → Nat → PV := fun n _ => .raw (.int .i64 n)
def orF (l : List Int) : Int := (l.find? fun x => decide (x ≠ 0)).getD 0
theorem b0t {l : List Int} {i : Nat} (hi : i < l.length) (hI : ∀ j, j < i → decide (l.getD j default = 0) = true) (h : ¬ l.getD i default = 0) : orF l = l.getD i default := by
 unfold orF
 have : l.find? (fun x => decide (x ≠ 0)) = some (l.getD i default) := by
  rw [List.find?_eq_some_iff_getElem]
  refine ⟨decide_eq_true h, i, hi, by simp [List.getD, hi], fun j hj => ?_⟩
  have := of_decide_eq_true (hI j hj)
  rw [List.getD_eq_getElem?_getD, List.getElem?_eq_getElem (by omega), Option.getD_some] at this
  simp [this]
 rw [this]; rfl
theorem b1q {l : List Int} (hI : ∀ j, j < l.length → decide (l.getD j default = 0) = true) : orF l = 0 := by
 unfold orF
 have : l.find? (fun x => decide (x ≠ 0)) = none := by
  rw [List.find?_eq_none]
  intro x hx
  obtain ⟨j, hj, rfl⟩ := List.getElem_of_mem hx
  have := of_decide_eq_true (hI j hj)
  rw [List.getD_eq_getElem?_getD, List.getElem?_eq_getElem hj, Option.getD_some] at this
  simp [this]
 rw [this]; rfl
theorem atw (a b : AS) : orF [ij (bsz a) (bsz b), ij (asI a) (asI b)] = xf a b := by
 unfold orF xf
 by_cases h : ij (bsz a) (bsz b) = 0
 · by_cases h2 : ij (asI a) (asI b) = 0 <;> simp [h, h2]
 · simp [h]
theorem at3 {α : Type} [Inhabited α] {cl : Bool} {c : α → Nat → PV} {x y : α} {f : Nat → Nat → PV} (h0 : CoP (f 0 0) (c x 0)) (h1 : CoP (f 1 0) (c y 0)) : CoP (.sl 2 1 cl f) (psl 1 c [x, y]) :=
 CoP.sl rfl (.inl rfl) (fun h => by cases h) fun i j hi hj => by
  obtain rfl : j = 0 := by omega
  rcases (by omega : i = 0 ∨ i = 1) with rfl | rfl
  · exact h0
  · exact h1
theorem asr {α : Type} [Inhabited α] {wr wr' : Bool} {e : TypeId} {c : α → Nat → PV} {l : List α} {x : α} {g : Nat → Nat → PV} (hg : CoP (g 0 0) (c x 0)) (hw : wr' = true → wr = true := by exact fun h => h) :
 CoO (.arr wr 1 e (l.length + 1) (fw l.length (lf c l) g)) (.arr wr' 1 e (l.length + 1) (lf c (l ++ [x]))) := by
 have h := ew (wr := wr) (wr' := wr') (e := e) (l := l) (l' := l ++ [x]) (g := g) rfl hg hw
 rwa [show (l ++ [x]).length = l.length + 1 by simp] at h
theorem iu {α : Type} [Inhabited α] {wr wr' : Bool} {s n m : Nat} {e : TypeId} {c : α → Nat → PV} {l l' : List α} (h : l' = l) (hn : n = m) (hw : wr' = true → wr = true := by exact fun h => h) : CoO (.arr wr s e n (lf c l)) (.arr wr' s e m (lf c l')) := by
 subst h hn
 exact ⟨hw, rfl, rfl, rfl, fun _ _ _ _ => CoP.refl _⟩
theorem aqy {a b : AS} : decide (xf a b < 0) = bef a b := by
 rw [Bool.eq_iff_iff, decide_eq_true_iff, o6]
 unfold xf ij asI
 split <;> (repeat' split) <;> omega
end Go.Hx
end
section
namespace Go.Hx
open Go.Proofs
set_option maxRecDepth 100000
set_option maxHeartbeats 1000000
theorem agc : goodFn Tryz.prog 201 := ⟨Tryz.f201, Tryz.func201, by kernel_rfl, by kernel_rfl⟩
theorem aru (a : Int) : ah Tryz.prog 201 [pI a] (ap [pB false]) := by
 refine ag (nt := 6) af Tryz.func201 rfl rfl l9 ?_; refine sx7 ?_; refine qy ?_; refine a6 ?_; refine sx7 ?_; (iterate 4 refine qy ?_); refine a6 ?_
 exact hx8 rfl rfl rfl (⟨ccb (by simp), trivial⟩)
theorem afi : goodFn Tryz.prog 202 := ⟨Tryz.f202, Tryz.func202, by kernel_rfl, by kernel_rfl⟩
theorem arh (a : AS) : ah Tryz.prog 202 [pA a] (ap [pB false]) := by
 refine ag (nt := 6) af Tryz.func202 rfl rfl l9 ?_; refine sx7 ?_; refine qy ?_; refine a6 ?_; refine sx7 ?_; (iterate 4 refine qy ?_); refine a6 ?_
 exact hx8 rfl rfl rfl (⟨ccb (by simp), trivial⟩)
theorem afa : goodFn Tryz.prog 163 := ⟨Tryz.f163, Tryz.func163, by kernel_rfl, by kernel_rfl⟩
theorem arp (a b : Int) : ah Tryz.prog 163 [pI a, pI b] (ap [pI (ij a b)]) := by
 refine ag (nt := 20) af Tryz.func163 rfl rfl l9 ?_; refine sx7 ?_; refine qy ?_; refine a6 ?_; refine sx7 ?_; refine qy ?_; refine rc rfl rfl rfl rfl rfl rfl agc (aru _) (CoL.refl _) rfl rfl ?_; refine qy ?_
 refine a6 ?_; refine sx7 ?_; refine qy ?_; refine rc rfl rfl rfl rfl rfl rfl agc (aru _) (CoL.refl _) rfl rfl ?_; refine qy ?_; refine a6 ?_; refine a7 ?_; refine sx7 ?_; refine qy ?_; refine a6 ?_
 refine a8 _ rfl (fun e => by cases e) (fun _ => ?_); refine aa ?_; refine a7 ?_; refine sx7 ?_; refine qy ?_; refine a6 ?_; refine a8 _ rfl (fun e => by cases e) (fun _ => ?_); refine aa ?_
 refine a7 ?_; refine sx7 ?_; (iterate 3 refine qy ?_); refine a6 ?_; refine a8 _ rfl (fun r0 => ?_) (fun r0 => ?_)
 ·
  have h0 := of_decide_eq_true r0
  try simp only [ty] at h0
  refine sx7 ?_; refine qy ?_; refine a6 ?_
  exact hx8 rfl rfl rfl (⟨cci (by unfold ij; first | (rw [if_pos (by omega)]) | (rw [if_neg (by omega), if_pos (by omega)]) | (rw [if_neg (by omega), if_neg (by omega)])), trivial⟩)
 ·
  have h0 := of_decide_eq_false r0
  try simp only [ty] at h0
  refine aa ?_; refine a7 ?_; refine sx7 ?_; (iterate 3 refine qy ?_); refine a6 ?_; refine a8 _ rfl (fun r1 => ?_) (fun r1 => ?_)
  ·
   have h1 := of_decide_eq_true r1
   try simp only [ty] at h1
   refine sx7 ?_; refine qy ?_; refine a6 ?_
   exact hx8 rfl rfl rfl (⟨cci (by unfold ij; first | (rw [if_pos (by omega)]) | (rw [if_neg (by omega), if_pos (by omega)]) | (rw [if_neg (by omega), if_neg (by omega)])), trivial⟩)
  ·
   have h1 := of_decide_eq_false r1
   try simp only [ty] at h1
   refine aa ?_; refine sx7 ?_; refine qy ?_; refine a6 ?_
   exact hx8 rfl rfl rfl (⟨cci (by unfold ij; first | (rw [if_pos (by omega)]) | (rw [if_neg (by omega), if_pos (by omega)]) | (rw [if_neg (by omega), if_neg (by omega)])), trivial⟩)
theorem awu : goodFn Tryz.prog 164 := ⟨Tryz.f164, Tryz.func164, by kernel_rfl, by kernel_rfl⟩
theorem b1v (a b : AS) : ah Tryz.prog 164 [pA a, pA b] (ap [pI (ij (asI a) (asI b))]) := by
 refine ag (nt := 20) af Tryz.func164 rfl rfl l9 ?_; refine sx7 ?_; refine qy ?_; refine a6 ?_; refine sx7 ?_; refine qy ?_; refine rc rfl rfl rfl rfl rfl rfl afi (arh _) (CoL.refl _) rfl rfl ?_; refine qy ?_
 refine a6 ?_; refine sx7 ?_; refine qy ?_; refine rc rfl rfl rfl rfl rfl rfl afi (arh _) (CoL.refl _) rfl rfl ?_; refine qy ?_; refine a6 ?_; refine a7 ?_; refine sx7 ?_; refine qy ?_; refine a6 ?_
 refine a8 _ rfl (fun e => by cases e) (fun _ => ?_); refine aa ?_; refine a7 ?_; refine sx7 ?_; refine qy ?_; refine a6 ?_; refine a8 _ rfl (fun e => by cases e) (fun _ => ?_); refine aa ?_
 refine a7 ?_; refine sx7 ?_; (iterate 3 refine qy ?_); refine a6 ?_; refine a8 _ rfl (fun r0 => ?_) (fun r0 => ?_)
 ·
  have h0 := of_decide_eq_true r0
  try simp only [ty] at h0
  refine sx7 ?_; refine qy ?_; refine a6 ?_
  exact hx8 rfl rfl rfl (⟨cci (by unfold ij; first | (rw [if_pos (by omega)]) | (rw [if_neg (by omega), if_pos (by omega)]) | (rw [if_neg (by omega), if_neg (by omega)])), trivial⟩)
 ·
  have h0 := of_decide_eq_false r0
  try simp only [ty] at h0
  refine aa ?_; refine a7 ?_; refine sx7 ?_; (iterate 3 refine qy ?_); refine a6 ?_; refine a8 _ rfl (fun r1 => ?_) (fun r1 => ?_)
  ·
   have h1 := of_decide_eq_true r1
   try simp only [ty] at h1
   refine sx7 ?_; refine qy ?_; refine a6 ?_
   exact hx8 rfl rfl rfl (⟨cci (by unfold ij; first | (rw [if_pos (by omega)]) | (rw [if_neg (by omega), if_pos (by omega)]) | (rw [if_neg (by omega), if_neg (by omega)])), trivial⟩)
  ·
   have h1 := of_decide_eq_false r1
   try simp only [ty] at h1
   refine aa ?_; refine sx7 ?_; refine qy ?_; refine a6 ?_
   exact hx8 rfl rfl rfl (⟨cci (by unfold ij; first | (rw [if_pos (by omega)]) | (rw [if_neg (by omega), if_pos (by omega)]) | (rw [if_neg (by omega), if_neg (by omega)])), trivial⟩)
theorem ati : goodFn Tryz.prog 162 := ⟨Tryz.f162, Tryz.func162, by kernel_rfl, by kernel_rfl⟩
theorem cOr (l : List Int) : ah Tryz.prog 162 [pP (psl 1 jC l)] (ap [pI (orF l)]) := by
 refine ag (nt := 18) af Tryz.func162 rfl rfl l9 ?_; refine a7 ?_
 refine d1 0 rfl fun hn => ?_
 refine gy ?_; refine qy ?_; refine a6 ?_; refine sx7 ?_; refine qy ?_; refine a6 ?_; refine dg (ι := Unit) ⟨[(3, some _)], []⟩ ⟨⟨c9, trivial⟩, trivial⟩ (fun _i => ⟨[], []⟩) (fun _i => orF l = 0) ?_ ?_
 ·
  refine sx7 ?_; (iterate 3 refine qy ?_); refine a6 ?_; refine ae ?_
  refine ai (ι := Nat) ⟨[(3, some _), (6, some _), (7, some _)], []⟩ ⟨⟨c9, c9, c9, trivial⟩, trivial⟩ (fun i => ⟨[(8, some (vI i))], []⟩) (fun i => i ≤ l.length ∧ (∀ j, j < i → decide (l.getD j default = 0) = true)) (fun i => l.length - i) (0) (⟨Nat.zero_le _, bu⟩) ⟨⟨zy, trivial⟩, trivial⟩ ?_
  rintro i ⟨hi, hI⟩
  refine sx7 ?_; refine qy ?_; refine a6 ?_; refine a7 ?_; refine a8 _ rfl (fun r0 => ?_) (fun r0 => ?_)
  ·
   have h0 := of_decide_eq_true r0
   try simp only [ty] at h0
   refine aa ?_; refine a7 ?_; refine ae ?_; refine sx7 ?_; (iterate 3 refine qy ?_); refine a6 ?_; refine sx7 ?_; (iterate 3 refine qy ?_); refine a6 ?_; refine a8 _ rfl (fun r1 => ?_) (fun r1 => ?_)
   ·
    have h1 := r1
    have h1 := of_decide_eq_false (ax h1)
    try simp only [ty] at h1
    refine sx7 ?_; (iterate 2 refine qy ?_); refine a6 ?_
    exact hx8 rfl rfl rfl (⟨cci (b0t (i := i) (by omega) hI h1).symm, trivial⟩)
   ·
    have h1 := r1
    have h1 := of_decide_eq_true (aw h1)
    try simp only [ty] at h1
    refine aa ?_; refine gy ?_; (iterate 2 refine qy ?_); refine a6 ?_; refine ⟨i + 1, ?_, ?_, ?_⟩
    · exact ⟨by show i + 1 ≤ _; omega, bf hI (decide_eq_true h1)⟩
    · first | omega | (dsimp only; omega)
    · exact ⟨⟨zy, c9, c9, c9, trivial⟩, trivial⟩
  ·
   have h0 := of_decide_eq_false r0
   try simp only [ty] at h0
   refine ak ?_; refine ⟨(), ?_, ?_⟩
   · exact b1q fun j hj => hI j (by omega)
   · exact ⟨⟨c9, trivial⟩, trivial⟩
 · rintro _ hj
   refine sx7 ?_; (iterate 2 refine qy ?_); refine a6 ?_
   exact hx8 rfl rfl rfl (⟨cci hj.symm, trivial⟩)
theorem aot (a b : AS) : ah Tryz.prog 113 [pA a, pA b] (ap [pI (xf a b)]) := by
 refine ag (nt := 15) af Tryz.func113 rfl rfl l9 ?_; refine sx7 ?_; refine qy ?_; refine a6 ?_; refine sx7 ?_; refine qy ?_; refine rc rfl rfl rfl rfl rfl rfl afn (as5 _) (CoL.refl _) rfl rfl ?_; refine qy ?_
 refine rc rfl rfl rfl rfl rfl rfl afn (as5 _) (CoL.refl _) rfl rfl ?_; refine rc rfl rfl rfl rfl rfl rfl afa (arp _ _) (CoL.refl _) rfl rfl ?_; (iterate 2 refine qy ?_)
 refine rc rfl rfl rfl rfl rfl rfl awu (b1v _ _) (CoL.refl _) rfl rfl ?_; refine m9 0 ?_
 refine rc rfl rfl rfl rfl rfl rfl ati (cOr [ij (bsz a) (bsz b), ij (asI a) (asI b)]) (⟨CoC.one (at3 (CoP.refl _) (CoP.refl _)), trivial⟩) rfl rfl ?_; refine qy ?_; refine a6 ?_
 exact hx8 rfl rfl rfl (⟨cci (atw a b), trivial⟩)
end Go.Hx
end
