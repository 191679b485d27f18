/- A part of the proof: LyTz TzW Cs7 Cs8 V6 Cs9 V7. -/
import Derived.Shelf.Lays7
import Derived.Shelf.Spec.TrailingZeros
import Derived.Test.YtidophngianjiaaGreatDoorProg
import Derived.Test.YtidophngianjiaaGreatDoor5x16
set_option linter.all false
section
namespace Go.Proofs
open Go.Shelf
def Tryz.lays28_ren : Go.Shelf.Ren := ⟨fun | 28 => 190 | n => n, fun | 27 => 37 | 3 => 3 | 4 => 4 | 25 => 137 | 53 => 213 | 0 => 0 | 5 => 5 | n => n, fun | 0 => 0 | n => n⟩
theorem Tryz.lays28 : Go.Proofs.Lays7.n28 Tryz.prog Tryz.lays28_ren := {
 mixed := by kernel_rfl
 f28 := Tryz.func190.trans (congrArg some (by kernel_rfl))
 t0 := Tryz.underlying0
 a0 := Tryz.isAgg0
 z0 := Tryz.sizeOf0
 v0 := Tryz.zeroValue0
 i0 := by kernel_rfl
 t3 := Tryz.underlying3
 a3 := Tryz.isAgg3
 z3 := Tryz.sizeOf3
 v3 := Tryz.zeroValue3
 i3 := by kernel_rfl
 t4 := Tryz.underlying4
 a4 := Tryz.isAgg4
 z4 := Tryz.sizeOf4
 v4 := Tryz.zeroValue4
 i4 := by kernel_rfl
 t5 := Tryz.underlying5
 a5 := Tryz.isAgg5
 z5 := Tryz.sizeOf5
 v5 := Tryz.zeroValue5
 i5 := by kernel_rfl
 t25 := Tryz.underlying137
 a25 := Tryz.isAgg137
 z25 := Tryz.sizeOf137
 v25 := Tryz.zeroValue137
 i25 := by kernel_rfl
 t27 := Tryz.underlying37
 a27 := Tryz.isAgg37
 z27 := Tryz.sizeOf37
 v27 := Tryz.zeroValue37
 i27 := by kernel_rfl
 t53 := Tryz.underlying213
 a53 := Tryz.isAgg213
 z53 := Tryz.sizeOf213
 v53 := Tryz.zeroValue213
 i53 := by kernel_rfl
 g0 := by kernel_rfl }
end Go.Proofs
end
section
namespace Go.Hx
open Go.Proofs Go.RowKit
set_option maxRecDepth 100000
theorem amb : goodFn Tryz.prog 190 := ⟨Tryz.f190, Tryz.func190, by kernel_rfl, by kernel_rfl⟩
theorem aqd : ∀ j, j < Lib.deBruijn32tab.length → nc 0 j = some (.int .u8 (Lib.deBruijn32tab.getD j 0)) := fun j hj => by
 unfold nc
 rw [show lj 0 = Lib.deBruijn32tab.map (fun k : Nat => Value.int .u8 (k : Int)) from rfl, List.getElem?_map, List.getElem?_eq_getElem hj, List.getD_eq_getElem?_getD, List.getElem?_eq_getElem hj]
 rfl
theorem cTz (s : AS) : ai Tryz.prog 190 [pA s] (al [pI (iu s)]) := by
 intro w imm us htab him hus
 match us, hus with
 | [u], ⟨hu, _⟩ =>
  obtain ⟨rfl, _⟩ := hu
  have h := Any7.bits_TrailingZeros32 Tryz.lays28 s.toNat s.isLt w fun _ j hj => by
   have hc := htab 0 j _ (aqd j hj)
   unfold ey at hc
   cases hb : imm 0 with
   | none => rw [hb] at hc; cases hc
   | some ob =>
    rw [hb] at hc
    have hw := him 0 ob hb
    cases ob <;> simp at hc
    show w.cell? ⟨0, j, none⟩ = _
    simp [World.cell?, hw, hc]
  refine h.mono ?_
  rintro e w' ⟨rfl, rfl⟩
  exact ⟨_, imm, rfl, ⟨rfl, rfl⟩, fun _ _ => rfl, him, Below.refl _ _⟩
 | [], h => exact h.elim
 | _ :: _ :: _, ⟨_, h⟩ => exact h.elim
end Go.Hx
end
section
namespace Go.Hx
section
variable {α : Type} [Inhabited α]
theorem a0u {wr wr' : Bool} {s m : Nat} {e : TypeId} {c : α → Nat → PV} {l l' : List α} {x : α} {g : Nat → Nat → PV} (h : l' = l ++ [x]) (hg : ∀ j, j < s → CoP (g 0 j) (c x j)) (hm : m = 1 := by rfl) (hw : wr' = true → wr = true := by exact fun h => h) :
 CoO (.arr wr s e (l.length + m) (ej l.length (lf c l) g)) (.arr wr' s e l'.length (lf c l')) := by
 subst h
 refine an0 [x] hw hm fun i j hi hj => ?_
 obtain rfl : i = 0 := by simp at hi; exact hi
 exact hg j hj
theorem du {wr wr' : Bool} {s : Nat} {e : TypeId} {c : α → Nat → PV} {l l' : List α} (h : l' = l) (hw : wr' = true → wr = true := by exact fun h => h) : CoO (.arr wr s e l.length (lf c l)) (.arr wr' s e l'.length (lf c l')) := by
 subst h
 exact ⟨hw, rfl, rfl, rfl, fun _ _ _ _ => CoP.refl _⟩
end
section
variable {α : Type} [Inhabited α]
theorem fv {id : Nat} {l l' : List α} {x : α} (h : l' = l ++ [x]) : CoR (.v (.one (.ref id (l.length + 1)))) (.v (.one (.ref id l'.length))) := by subst h; rw [List.length_append]; exact CoR.refl _
theorem dz {id : Nat} {l l' : List α} (h : l' = l) : CoR (.v (.one (.ref id l.length))) (.v (.one (.ref id l'.length))) := by subst h; exact CoR.refl _
theorem gt {wr wr' : Bool} {e : TypeId} {c : α → Nat → PV} {l l' : List α} {x : α} {g : Nat → Nat → PV} (h : l' = l ++ [x]) (hg : CoP (g 0 0) (c x 0)) (hw : wr' = true → wr = true := by exact fun h => h) :
 CoO (.arr wr 1 e (l.length + 1) (ej l.length (lf c l) g)) (.arr wr' 1 e l'.length (lf c l')) :=
 a0u h (fun j hj => by
  obtain rfl : j = 0 := by omega
  exact hg) rfl hw
theorem yb {wr wr' : Bool} {e : TypeId} {c : α → Nat → PV} {l l' : List α} {x : α} {g : Nat → Nat → PV} (h : l' = l ++ [x]) (h0 : CoP (g 0 0) (c x 0)) (h1 : CoP (g 0 1) (c x 1)) (hw : wr' = true → wr = true := by exact fun h => h) :
 CoO (.arr wr 2 e (l.length + 1) (ej l.length (lf c l) g)) (.arr wr' 2 e l'.length (lf c l')) :=
 a0u h (fun j hj => by
  rcases (by omega : j = 0 ∨ j = 1) with rfl | rfl
  · exact h0
  · exact h1) rfl hw
end
def aqh (s : AS) (i : Nat) : List Nat := (List.range i).filter fun k => s.getLsbD k
end Go.Hx
end
section
namespace Go.Hx
def ji (b : Nat) : Nat := (List.range 8).countP fun i => b.testBit i
theorem jx (p : Nat → Bool) (a b : Nat) : (List.range (a + b)).countP p = (List.range a).countP p + (List.range b).countP fun i => p (a + i) := by
 rw [List.range_add, List.countP_append, List.countP_map]
 rfl
theorem ah8 {n k j : Nat} (hj : j < 8) : (n / 2 ^ k % 256).testBit j = n.testBit (k + j) := by
 rw [show (256 : Nat) = 2 ^ 8 from rfl, Nat.testBit_mod_two_pow, Nat.testBit_div_two_pow, Nat.add_comm]
 simp [hj]
theorem aom (n : Nat) (hn : n < 2 ^ 32) : (List.range (8 + (8 + (8 + 8)))).countP (fun i => n.testBit i) = ji (n / 2 ^ 24) + ji (n / 2 ^ 16 % 256) + ji (n / 2 ^ 8 % 256) + ji (n % 256) := by
 have h : ∀ k, (List.range 8).countP (fun i => n.testBit (k + i)) = ji (n / 2 ^ k % 256) := fun k => by
  unfold ji
  apply List.countP_congr
  intro j hj
  rw [ah8 (List.mem_range.1 hj)]
 have h3 : n / 2 ^ 24 % 256 = n / 2 ^ 24 := Nat.mod_eq_of_lt (by omega)
 have h0 := h 0
 simp only [Nat.zero_add, Nat.pow_zero, Nat.div_one] at h0
 rw [jx, jx, jx, h0]
 have e2 := h 8
 have e3 := h 16
 have e4 := h 24
 rw [h3] at e4
 simp only [← Nat.add_assoc] at *
 simp only [Nat.reduceAdd] at *
 rw [e2, e3, e4]
 omega
theorem adg (s : AS) : bsz s = ji (s.toNat / 2 ^ 24) + ji (s.toNat / 2 ^ 16 % 256) + ji (s.toNat / 2 ^ 8 % 256) + ji (s.toNat % 256) := aom s.toNat s.isLt
theorem wl (b : Nat) : ji b ≤ 8 := by
 have := List.countP_le_length (p := fun i => b.testBit i) (l := List.range 8)
 rwa [List.length_range] at this
theorem ail (s : AS) (k : Nat) (hk : k ≤ 32) : ((asI s).fdiv (2 ^ (min k 32))).toNat = s.toNat / 2 ^ k := by
 rw [pf]
 show (((s >>> k).toNat : Nat) : Int).toNat = _
 rw [Int.toNat_natCast, BitVec.toNat_ushiftRight, Nat.shiftRight_eq_div_pow]
theorem a98 (s : AS) (k : Nat) (hk : k ≤ 32) : (cq .and .u32 ((asI s).fdiv (2 ^ (min k 32))) 255).toNat = s.toNat / 2 ^ k % 256 := by
 rw [pf, show (255 : Int) = asI 255 from rfl, gv]
 show (((s >>> k &&& 255).toNat : Nat) : Int).toNat = _
 rw [Int.toNat_natCast, BitVec.toNat_and, BitVec.toNat_ushiftRight, Nat.shiftRight_eq_div_pow, show (255 : AS).toNat = 2 ^ 8 - 1 from rfl, Nat.and_two_pow_sub_one_eq_mod]
theorem aj1 (s : AS) : (cq .and .u32 (asI s) 255).toNat = s.toNat % 256 := by
 rw [show (255 : Int) = asI 255 from rfl, gv]
 show (((s &&& 255).toNat : Nat) : Int).toNat = _
 rw [Int.toNat_natCast, BitVec.toNat_and, show (255 : AS).toNat = 2 ^ 8 - 1 from rfl, Nat.and_two_pow_sub_one_eq_mod]
theorem act (a b : Int) : 0 ≤ cq .and .u32 a b := by
 show 0 ≤ IntKind.wrap .u32 _
 rw [a6e (Int.natCast_nonneg _) (by have := (BitVec.ofInt 32 a &&& BitVec.ofInt 32 b).isLt; show ((BitVec.ofInt 32 a &&& BitVec.ofInt 32 b).toNat : Int) < _; omega)]
 exact Int.natCast_nonneg _
theorem alb (s : AS) (k : Nat) : 0 ≤ (asI s).fdiv (2 ^ (min k 32)) := by rw [pf]; exact a0e _
theorem ara {X : ByteArray} (s : AS) (hX : (256 : Int) ≤ X.size) : 0 ≤ (asI s).fdiv (2 ^ (min 24 32)) ∧ (asI s).fdiv (2 ^ (min 24 32)) < X.size := by
 have h1 := alb s 24
 have h2 := ail s 24 (by omega)
 have := s.isLt
 exact ⟨h1, by omega⟩
theorem ixM {X : ByteArray} (s : AS) (k : Nat) (hk : k ≤ 32) (hX : (256 : Int) ≤ X.size) : 0 ≤ cq .and .u32 ((asI s).fdiv (2 ^ (min k 32))) 255 ∧ cq .and .u32 ((asI s).fdiv (2 ^ (min k 32))) 255 < X.size := by
 have h1 := act ((asI s).fdiv (2 ^ (min k 32))) 255
 have h2 := a98 s k hk
 exact ⟨h1, by omega⟩
theorem ixL {X : ByteArray} (s : AS) (hX : (256 : Int) ≤ X.size) : 0 ≤ cq .and .u32 (asI s) 255 ∧ cq .and .u32 (asI s) 255 < X.size := by
 have h1 := act (asI s) 255
 have h2 := aj1 s
 exact ⟨h1, by omega⟩
theorem a2d {n : Int} (h0 : 0 ≤ n) (h1 : n < 256) : IntKind.wrap .u8 n = n := lm (by simp only [inR, mj, qd]; omega)
theorem aci {n : Int} (h0 : 0 ≤ n) (h1 : n < 256) : IntKind.wrap .i64 n = n := lm (by simp only [inR, mj, qd]; omega)
theorem ap3 {X : ByteArray} {s : AS} {i0 i1 i2 i3 : Nat} (hX : ∀ b, b < 256 → i6 X b = (ji b : Int)) (h0 : i0 = s.toNat / 2 ^ 24) (h1 : i1 = s.toNat / 2 ^ 16 % 256) (h2 : i2 = s.toNat / 2 ^ 8 % 256) (h3 : i3 = s.toNat % 256) :
 IntKind.wrap .i64 (IntKind.wrap .u8 (IntKind.wrap .u8 (IntKind.wrap .u8 (i6 X i0 + i6 X i1) + i6 X i2) + i6 X i3)) = (bsz s : Int) := by
 have := s.isLt
 subst h0 h1 h2 h3
 rw [hX _ (by omega), hX _ (by omega), hX _ (by omega), hX _ (by omega)]
 have a0 := wl (s.toNat / 2 ^ 24)
 have a1 := wl (s.toNat / 2 ^ 16 % 256)
 have a2 := wl (s.toNat / 2 ^ 8 % 256)
 have a3 := wl (s.toNat % 256)
 rw [adg]
 generalize ji (s.toNat / 2 ^ 24) = c0 at *
 generalize ji (s.toNat / 2 ^ 16 % 256) = c1 at *
 generalize ji (s.toNat / 2 ^ 8 % 256) = c2 at *
 generalize ji (s.toNat % 256) = c3 at *
 rw [a2d (n := c0 + c1) (by omega) (by omega), a2d (n := c0 + c1 + c2) (by omega) (by omega), a2d (n := c0 + c1 + c2 + c3) (by omega) (by omega), aci (n := c0 + c1 + c2 + c3) (by omega) (by omega)]
 omega
theorem acz (s : AS) : bsz s ≤ 32 := by
 have := List.countP_le_length (p := fun i => s.getLsbD i) (l := List.range 32)
 rwa [List.length_range] at this
theorem abs {s0 : AS} (x : List Nat × AS) (h : x.1 ++ aw x.2 = aw s0) : x.1.length ≤ 32 := by
 have h1 := congrArg List.length h
 rw [List.length_append, ← ou s0] at h1
 have := acz s0
 omega
theorem a67 {s : AS} (h : s ≠ 0) : asI s - 1 = asI (s - 1) := by
 have h0 : s.toNat ≠ 0 := fun e => h (BitVec.eq_of_toNat_eq e)
 have := s.isLt
 have e1 : (s - 1).toNat = s.toNat - 1 := by
  rw [BitVec.toNat_sub]
  show (2 ^ 32 - 1 + s.toNat) % 2 ^ 32 = _
  omega
 unfold asI
 rw [e1]
 omega
theorem a52 {s : AS} (h : s ≠ 0) : (f0 true .u32 (asI s - 1)).1 := by
 rw [a67 h]
 have h1 := a0e (s - 1)
 have h2 := a4m (s - 1)
 simp only [f0, inR, mj, qd]
 omega
theorem ah4 {s : AS} (h : s ≠ 0) : cq .and .u32 (asI s) (asI s - 1) = asI (s &&& (s - 1)) := by rw [a67 h, gv]
def ez (a b : Int) : Int := if a < b then -1 else if b < a then 1 else 0
def sg (a b : AS) : Int := if ez (bsz a) (bsz b) = 0 then ez (asI a) (asI b) else ez (bsz a) (bsz b)
end Go.Hx
end
section
namespace Go.Hx
open Go.Proofs
set_option maxRecDepth 100000
theorem a8i : goodFn Tryz.prog 159 := ⟨Tryz.f159, Tryz.func159, by kernel_rfl, by kernel_rfl⟩
theorem aok (s0 : AS) : ai Tryz.prog 159 [pA s0] (al [pP (il (aw s0))]) := by
 refine aj (nt := 16) ah Tryz.func159 rfl rfl l9 ?_; refine sx7 ?_; refine qy ?_; refine a6 ?_; refine sx7 ?_; refine qy ?_; refine a6 ?_; refine a7 ?_; refine ab ?_
 refine gf 3 900 true 1 3 (lf iC []) (by decide) rfl (CoP.sl rfl (.inr rfl) (fun h => h) (fun i j hi _ => absurd hi (Nat.not_lt_zero i))) (.inr rfl) rfl ?_
 refine ao (ι := List Nat × AS) ⟨[], []⟩ ⟨trivial, trivial⟩ (fun x => ⟨[(3, some (.v (.one (.ref 900 x.1.length)))), (0, some (vA x.2))], [(900, some (.arr true 1 3 x.1.length (lf iC x.1)))]⟩) (fun x => x.1 ++ aw x.2 = aw s0) (fun x => x.2.toNat) (([], s0)) (rfl) ⟨⟨zy, zy, trivial⟩, ⟨u9, trivial⟩⟩ ?_
 rintro x hx
 have hlen := abs x hx
 refine a7 ?_; refine sx7 ?_; (iterate 2 refine qy ?_); refine a6 ?_; refine a8 _ rfl (fun r0 => ?_) (fun r0 => ?_)
 ·
  have h0 := r0
  have h0 := of_decide_eq_false (b8 h0)
  try simp only [ty] at h0
  have hne : x.2 ≠ 0 := fun e => h0 (by rw [e]; rfl)
  refine aa ?_; refine a7 ?_; refine ab ?_; refine gy ?_; (iterate 2 refine qy ?_); refine rc rfl rfl rfl rfl rfl rfl amb (cTz x.2) (CoL.refl _) rfl rfl ?_; refine m9 0 ?_
  refine ra 1 true rfl rfl rfl rfl rfl rfl ?_; refine qy ?_; refine a6 ?_; refine gy ?_; (iterate 2 refine qy ?_); refine rq rfl rfl rfl rfl rfl ?_ (hp := (a52 hne)); (iterate 2 refine qy ?_); refine a6 ?_
  refine ⟨(x.1 ++ [iu x.2], x.2 &&& (x.2 - 1)), ?_, ?_, ?_⟩
  · show (x.1 ++ [iu x.2]) ++ aw (x.2 &&& (x.2 - 1)) = aw s0
    rw [← hx, aeo hne, List.append_assoc]; rfl
  · exact ahg hne
  · exact ⟨⟨⟨_, rfl, (fv rfl)⟩, ⟨_, rfl, (ja (ah4 hne))⟩, trivial⟩, ⟨⟨_, rfl, (gt rfl (CoP.refl _))⟩, trivial⟩⟩
 ·
  have h0 := r0
  have h0 := of_decide_eq_true (b7 h0)
  try simp only [ty] at h0
  have hz : x.2 = 0 := dp.1 h0
  refine ar ?_; refine sx7 ?_; (iterate 2 refine qy ?_); refine a6 ?_; refine ce 2 rfl rfl rfl ?_
  exact hx8 rfl rfl rfl (⟨CoC.one (CoP.of_eq (by rw [hz, a9i, List.append_nil] at hx; rw [← hx]; rfl)), trivial⟩)
theorem aln : goodFn Tryz.prog 158 := ⟨Tryz.f158, Tryz.func158, by kernel_rfl, by kernel_rfl⟩
theorem apb (s : AS) : ai Tryz.prog 158 [pA s] (al [pI (bsz s)]) := by
 refine aj (nt := 21) ah Tryz.func158 rfl rfl l9 ?_; refine sx7 ?_; refine qy ?_; refine a6 ?_; refine a7 ?_
 refine br (E := c6) ah bh [0, 1, 2, 3, 4, 5, 6, 7, 8, 9, 10, 11, 12, 13, 14, 15, 16, 17, 18] ?_; (iterate 2 refine qy ?_); refine rq rfl rfl rfl rfl rfl ?_ (hp := (ara s (by decide +kernel)))
 (iterate 3 refine qy ?_); refine rq rfl rfl rfl rfl rfl ?_ (hp := (ixM s 16 (by omega) (by decide +kernel))); refine rqw rfl rfl rfl rfl rfl ?_; (iterate 3 refine qy ?_)
 refine rq rfl rfl rfl rfl rfl ?_ (hp := (ixM s 8 (by omega) (by decide +kernel))); refine rqw rfl rfl rfl rfl rfl ?_; (iterate 2 refine qy ?_); refine rq rfl rfl rfl rfl rfl ?_ (hp := (ixL s (by decide +kernel)))
 (iterate 2 refine rqw rfl rfl rfl rfl rfl ?_); refine qy ?_; refine a6 ?_; refine ⟨by kernel_rfl, ?_⟩
 exact hx8 rfl rfl rfl (⟨cci (ap3 (by decide +kernel) (ail s 24 (by omega)) (a98 s 16 (by omega)) (a98 s 8 (by omega)) (aj1 s)), trivial⟩)
theorem w9 : goodFn Tryz.prog 106 := ⟨Tryz.f106, Tryz.func106, by kernel_rfl, by kernel_rfl⟩
theorem a3h (s : AS) : ai Tryz.prog 106 [pA s] (al [pI (bsz s)]) := by
 refine aj (nt := 5) ah Tryz.func106 rfl rfl l9 ?_; refine sx7 ?_; refine qy ?_; refine a6 ?_; refine sx7 ?_; refine qy ?_; refine rc rfl rfl rfl rfl rfl rfl aln (apb s) (CoL.refl _) rfl rfl ?_; refine qy ?_
 refine a6 ?_
 exact hx8 rfl rfl rfl (CoL.refl _)
end Go.Hx
end
section
namespace Go.Hx
def ati (l : List AS) (k : Nat) (r : AS) : List AS := l.take k ++ r :: l.drop k
theorem a4z (x : AS) : ∀ l : List AS, (ig x l).length ≤ l.length + 1
 | [] => by simp [ig]
 | y :: l => by
  unfold ig
  have := a4z x l
  split
  · simp
  · split
    · simp
    · simp only [List.length_cons]; omega
theorem vu (l : List AS) : (ord l).length ≤ l.length := by
 have : ∀ (l o : List AS), (l.foldl (fun o x => ig x o) o).length ≤ o.length + l.length := by
  intro l
  induction l with
  | nil => intro o; simp
  | cons x l ih =>
   intro o
   have h1 := ih (ig x o)
   have h2 := a4z x o
   simp only [List.foldl_cons, List.length_cons]
   omega
 have h := this l []
 simpa [ord] using h
def jC : Int → Nat → PV := fun n _ => .raw (.int .i64 n)
def orF (l : List Int) : Int := (l.find? fun x => decide (x ≠ 0)).getD 0
theorem aqm {l : List Int} {i : Nat} (hi : i < l.length) (hI : ∀ j, j < i → decide (l.getD j default = 0) = true) (h : ¬ l.getD i default = 0) : orF l = l.getD i default := by
 unfold orF
 have : l.find? (fun x => decide (x ≠ 0)) = some (l.getD i default) := by
  rw [List.find?_eq_some_iff_getElem]
  refine ⟨decide_eq_true h, i, hi, by simp [List.getD, hi], fun j hj => ?_⟩
  have := of_decide_eq_true (hI j hj)
  rw [List.getD_eq_getElem?_getD, List.getElem?_eq_getElem (by omega), Option.getD_some] at this
  simp [this]
 rw [this]; rfl
theorem apx {l : List Int} (hI : ∀ j, j < l.length → decide (l.getD j default = 0) = true) : orF l = 0 := by
 unfold orF
 have : l.find? (fun x => decide (x ≠ 0)) = none := by
  rw [List.find?_eq_none]
  intro x hx
  obtain ⟨j, hj, rfl⟩ := List.getElem_of_mem hx
  have := of_decide_eq_true (hI j hj)
  rw [List.getD_eq_getElem?_getD, List.getElem?_eq_getElem hj, Option.getD_some] at this
  simp [this]
 rw [this]; rfl
theorem akc (a b : AS) : orF [ez (bsz a) (bsz b), ez (asI a) (asI b)] = sg a b := by
 unfold orF sg
 by_cases h : ez (bsz a) (bsz b) = 0
 · by_cases h2 : ez (asI a) (asI b) = 0 <;> simp [h, h2]
 · simp [h]
theorem aja {α : Type} [Inhabited α] {cl : Bool} {c : α → Nat → PV} {x y : α} {f : Nat → Nat → PV} (h0 : CoP (f 0 0) (c x 0)) (h1 : CoP (f 1 0) (c y 0)) : CoP (.sl 2 1 cl f) (psl 1 c [x, y]) :=
 CoP.sl rfl (.inl rfl) (fun h => by cases h) fun i j hi hj => by
  obtain rfl : j = 0 := by omega
  rcases (by omega : i = 0 ∨ i = 1) with rfl | rfl
  · exact h0
  · exact h1
theorem a1f {α : Type} [Inhabited α] {wr wr' : Bool} {s n m : Nat} {e : TypeId} {c : α → Nat → PV} {l l' : List α} (h : l' = l) (hn : n = m) (hw : wr' = true → wr = true := by exact fun h => h) : CoO (.arr wr s e n (lf c l)) (.arr wr' s e m (lf c l')) := by
 subst h hn
 exact ⟨hw, rfl, rfl, rfl, fun _ _ _ _ => CoP.refl _⟩
theorem afh {a b : AS} : decide (sg a b < 0) = bef a b := by
 rw [Bool.eq_iff_iff, decide_eq_true_iff, k6]
 unfold sg ez asI
 split <;> (repeat' split) <;> omega
end Go.Hx
end
section
namespace Go.Hx
open Go.Proofs
set_option maxRecDepth 100000
set_option maxHeartbeats 1000000
theorem a8a : goodFn Tryz.prog 201 := ⟨Tryz.f201, Tryz.func201, by kernel_rfl, by kernel_rfl⟩
theorem aip (a : Int) : ai Tryz.prog 201 [pI a] (al [pB false]) := by
 refine aj (nt := 6) ah Tryz.func201 rfl rfl l9 ?_; refine sx7 ?_; refine qy ?_; refine a6 ?_; refine sx7 ?_; (iterate 4 refine qy ?_); refine a6 ?_
 exact hx8 rfl rfl rfl (⟨ccb (by simp), trivial⟩)
theorem a8k : goodFn Tryz.prog 202 := ⟨Tryz.f202, Tryz.func202, by kernel_rfl, by kernel_rfl⟩
theorem aiz (a : AS) : ai Tryz.prog 202 [pA a] (al [pB false]) := by
 refine aj (nt := 6) ah Tryz.func202 rfl rfl l9 ?_; refine sx7 ?_; refine qy ?_; refine a6 ?_; refine sx7 ?_; (iterate 4 refine qy ?_); refine a6 ?_
 exact hx8 rfl rfl rfl (⟨ccb (by simp), trivial⟩)
theorem a96 : goodFn Tryz.prog 163 := ⟨Tryz.f163, Tryz.func163, by kernel_rfl, by kernel_rfl⟩
theorem air (a b : Int) : ai Tryz.prog 163 [pI a, pI b] (al [pI (ez a b)]) := by
 refine aj (nt := 20) ah Tryz.func163 rfl rfl l9 ?_; refine sx7 ?_; refine qy ?_; refine a6 ?_; refine sx7 ?_; refine qy ?_; refine rc rfl rfl rfl rfl rfl rfl a8a (aip _) (CoL.refl _) rfl rfl ?_; refine qy ?_
 refine a6 ?_; refine sx7 ?_; refine qy ?_; refine rc rfl rfl rfl rfl rfl rfl a8a (aip _) (CoL.refl _) rfl rfl ?_; refine qy ?_; refine a6 ?_; refine a7 ?_; refine sx7 ?_; refine qy ?_; refine a6 ?_
 refine a8 _ rfl (fun e => by cases e) (fun _ => ?_); refine aa ?_; refine a7 ?_; refine sx7 ?_; refine qy ?_; refine a6 ?_; refine a8 _ rfl (fun e => by cases e) (fun _ => ?_); refine aa ?_
 refine a7 ?_; refine sx7 ?_; (iterate 3 refine qy ?_); refine a6 ?_; refine a8 _ rfl (fun r0 => ?_) (fun r0 => ?_)
 ·
  have h0 := of_decide_eq_true r0
  try simp only [ty] at h0
  refine sx7 ?_; refine qy ?_; refine a6 ?_
  exact hx8 rfl rfl rfl (⟨cci (by unfold ez; first | (rw [if_pos (by omega)]) | (rw [if_neg (by omega), if_pos (by omega)]) | (rw [if_neg (by omega), if_neg (by omega)])), trivial⟩)
 ·
  have h0 := of_decide_eq_false r0
  try simp only [ty] at h0
  refine aa ?_; refine a7 ?_; refine sx7 ?_; (iterate 3 refine qy ?_); refine a6 ?_; refine a8 _ rfl (fun r1 => ?_) (fun r1 => ?_)
  ·
   have h1 := of_decide_eq_true r1
   try simp only [ty] at h1
   refine sx7 ?_; refine qy ?_; refine a6 ?_
   exact hx8 rfl rfl rfl (⟨cci (by unfold ez; first | (rw [if_pos (by omega)]) | (rw [if_neg (by omega), if_pos (by omega)]) | (rw [if_neg (by omega), if_neg (by omega)])), trivial⟩)
  ·
   have h1 := of_decide_eq_false r1
   try simp only [ty] at h1
   refine aa ?_; refine sx7 ?_; refine qy ?_; refine a6 ?_
   exact hx8 rfl rfl rfl (⟨cci (by unfold ez; first | (rw [if_pos (by omega)]) | (rw [if_neg (by omega), if_pos (by omega)]) | (rw [if_neg (by omega), if_neg (by omega)])), trivial⟩)
theorem aky : goodFn Tryz.prog 164 := ⟨Tryz.f164, Tryz.func164, by kernel_rfl, by kernel_rfl⟩
theorem aps (a b : AS) : ai Tryz.prog 164 [pA a, pA b] (al [pI (ez (asI a) (asI b))]) := by
 refine aj (nt := 20) ah Tryz.func164 rfl rfl l9 ?_; refine sx7 ?_; refine qy ?_; refine a6 ?_; refine sx7 ?_; refine qy ?_; refine rc rfl rfl rfl rfl rfl rfl a8k (aiz _) (CoL.refl _) rfl rfl ?_; refine qy ?_
 refine a6 ?_; refine sx7 ?_; refine qy ?_; refine rc rfl rfl rfl rfl rfl rfl a8k (aiz _) (CoL.refl _) rfl rfl ?_; refine qy ?_; refine a6 ?_; refine a7 ?_; refine sx7 ?_; refine qy ?_; refine a6 ?_
 refine a8 _ rfl (fun e => by cases e) (fun _ => ?_); refine aa ?_; refine a7 ?_; refine sx7 ?_; refine qy ?_; refine a6 ?_; refine a8 _ rfl (fun e => by cases e) (fun _ => ?_); refine aa ?_
 refine a7 ?_; refine sx7 ?_; (iterate 3 refine qy ?_); refine a6 ?_; refine a8 _ rfl (fun r0 => ?_) (fun r0 => ?_)
 ·
  have h0 := of_decide_eq_true r0
  try simp only [ty] at h0
  refine sx7 ?_; refine qy ?_; refine a6 ?_
  exact hx8 rfl rfl rfl (⟨cci (by unfold ez; first | (rw [if_pos (by omega)]) | (rw [if_neg (by omega), if_pos (by omega)]) | (rw [if_neg (by omega), if_neg (by omega)])), trivial⟩)
 ·
  have h0 := of_decide_eq_false r0
  try simp only [ty] at h0
  refine aa ?_; refine a7 ?_; refine sx7 ?_; (iterate 3 refine qy ?_); refine a6 ?_; refine a8 _ rfl (fun r1 => ?_) (fun r1 => ?_)
  ·
   have h1 := of_decide_eq_true r1
   try simp only [ty] at h1
   refine sx7 ?_; refine qy ?_; refine a6 ?_
   exact hx8 rfl rfl rfl (⟨cci (by unfold ez; first | (rw [if_pos (by omega)]) | (rw [if_neg (by omega), if_pos (by omega)]) | (rw [if_neg (by omega), if_neg (by omega)])), trivial⟩)
  ·
   have h1 := of_decide_eq_false r1
   try simp only [ty] at h1
   refine aa ?_; refine sx7 ?_; refine qy ?_; refine a6 ?_
   exact hx8 rfl rfl rfl (⟨cci (by unfold ez; first | (rw [if_pos (by omega)]) | (rw [if_neg (by omega), if_pos (by omega)]) | (rw [if_neg (by omega), if_neg (by omega)])), trivial⟩)
theorem akf : goodFn Tryz.prog 162 := ⟨Tryz.f162, Tryz.func162, by kernel_rfl, by kernel_rfl⟩
theorem cOr (l : List Int) : ai Tryz.prog 162 [pP (psl 1 jC l)] (al [pI (orF l)]) := by
 refine aj (nt := 18) ah Tryz.func162 rfl rfl l9 ?_; refine a7 ?_
 refine en 0 rfl fun hn => ?_
 refine gy ?_; refine qy ?_; refine a6 ?_; refine sx7 ?_; refine qy ?_; refine a6 ?_; refine ef (ι := Unit) ⟨[(3, some _)], []⟩ ⟨⟨c9, trivial⟩, trivial⟩ (fun _i => ⟨[], []⟩) (fun _i => orF l = 0) ?_ ?_
 ·
  refine sx7 ?_; (iterate 3 refine qy ?_); refine a6 ?_; refine ab ?_
  refine ao (ι := Nat) ⟨[(3, some _), (6, some _), (7, some _)], []⟩ ⟨⟨c9, c9, c9, trivial⟩, trivial⟩ (fun i => ⟨[(8, some (vI i))], []⟩) (fun i => i ≤ l.length ∧ (∀ j, j < i → decide (l.getD j default = 0) = true)) (fun i => l.length - i) (0) (⟨Nat.zero_le _, d3⟩) ⟨⟨zy, trivial⟩, trivial⟩ ?_
  rintro i ⟨hi, hI⟩
  refine sx7 ?_; refine qy ?_; refine a6 ?_; refine a7 ?_; refine a8 _ rfl (fun r0 => ?_) (fun r0 => ?_)
  ·
   have h0 := of_decide_eq_true r0
   try simp only [ty] at h0
   refine aa ?_; refine a7 ?_; refine ab ?_; refine sx7 ?_; (iterate 3 refine qy ?_); refine a6 ?_; refine sx7 ?_; (iterate 3 refine qy ?_); refine a6 ?_; refine a8 _ rfl (fun r1 => ?_) (fun r1 => ?_)
   ·
    have h1 := r1
    have h1 := of_decide_eq_false (b8 h1)
    try simp only [ty] at h1
    refine sx7 ?_; (iterate 2 refine qy ?_); refine a6 ?_
    exact hx8 rfl rfl rfl (⟨cci (aqm (i := i) (by omega) hI h1).symm, trivial⟩)
   ·
    have h1 := r1
    have h1 := of_decide_eq_true (b7 h1)
    try simp only [ty] at h1
    refine aa ?_; refine gy ?_; (iterate 2 refine qy ?_); refine a6 ?_; refine ⟨i + 1, ?_, ?_, ?_⟩
    · exact ⟨by show i + 1 ≤ _; omega, c8 hI (decide_eq_true h1)⟩
    · first | omega | (dsimp only; omega)
    · exact ⟨⟨zy, c9, c9, c9, trivial⟩, trivial⟩
  ·
   have h0 := of_decide_eq_false r0
   try simp only [ty] at h0
   refine ar ?_; refine ⟨(), ?_, ?_⟩
   · exact apx fun j hj => hI j (by omega)
   · exact ⟨⟨c9, trivial⟩, trivial⟩
 · rintro _ hj
   refine sx7 ?_; (iterate 2 refine qy ?_); refine a6 ?_
   exact hx8 rfl rfl rfl (⟨cci hj.symm, trivial⟩)
theorem afe (a b : AS) : ai Tryz.prog 113 [pA a, pA b] (al [pI (sg a b)]) := by
 refine aj (nt := 15) ah Tryz.func113 rfl rfl l9 ?_; refine sx7 ?_; refine qy ?_; refine a6 ?_; refine sx7 ?_; refine qy ?_; refine rc rfl rfl rfl rfl rfl rfl w9 (a3h _) (CoL.refl _) rfl rfl ?_; refine qy ?_
 refine rc rfl rfl rfl rfl rfl rfl w9 (a3h _) (CoL.refl _) rfl rfl ?_; refine rc rfl rfl rfl rfl rfl rfl a96 (air _ _) (CoL.refl _) rfl rfl ?_; (iterate 2 refine qy ?_)
 refine rc rfl rfl rfl rfl rfl rfl aky (aps _ _) (CoL.refl _) rfl rfl ?_; refine m9 0 ?_
 refine rc rfl rfl rfl rfl rfl rfl akf (cOr [ez (bsz a) (bsz b), ez (asI a) (asI b)]) (⟨CoC.one (aja (CoP.refl _) (CoP.refl _)), trivial⟩) rfl rfl ?_; refine qy ?_; refine a6 ?_
 exact hx8 rfl rfl rfl (⟨cci (akc a b), trivial⟩)
end Go.Hx
end
