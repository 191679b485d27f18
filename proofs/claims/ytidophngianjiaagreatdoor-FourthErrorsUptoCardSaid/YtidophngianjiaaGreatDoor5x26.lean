/- A part of the proof: X11 Ch8 X12 Ch9 X13 Ch10 Ch11. -/
import Derived.Test.YtidophngianjiaaGreatDoor5x16
import Derived.Test.YtidophngianjiaaGreatDoor5x25
set_option linter.all false
section
namespace Go.Hx
open Go.Proofs
set_option maxRecDepth 100000
theorem ajk : goodFn Tryz.prog 219 := ⟨Tryz.f219, Tryz.func219, by kernel_rfl, by kernel_rfl⟩
theorem aqu (n : Int) (l : List Rw) (row : Rw) (hl : ∀ i, i < l.length → (l.getD i default).length ≤ 17592186044416) (hl2 : l.length ≤ 4294967296) : ai Tryz.prog 219 [pT n l, pZ row] (al [pT (l5 n l row).1 (l5 n l row).2.1, pI (l5 n l row).2.2]) := by
 refine aj (nt := 23) ah Tryz.func219 rfl rfl l9 ?_; refine sx7 ?_; refine m9 0 ?_; refine m9 1 ?_; refine qy ?_; refine a6 ?_; refine sx7 ?_; refine qy ?_
 refine d5 rfl rfl rfl rfl rfl rfl a1d (a8f n l hl (by omega)) (ek.refl _) trivial rfl rfl ?_; refine m9 2 ?_; refine s9 ?_; refine a6 ?_; refine sx7 ?_; (iterate 3 refine qy ?_); refine m9 3 ?_
 refine ra 4 true rfl rfl rfl rfl rfl rfl ?_; refine qy ?_; refine s9 ?_; refine a6 ?_; refine sx7 ?_; refine qy ?_
 refine d5 rfl rfl rfl rfl rfl rfl a1i ((a1p n (l ++ [row]) (by simp; omega)).swap 900 901) (⟨⟨CoP.refl _, congrArg (HV.ref 901) (by simp), trivial⟩, trivial⟩) ⟨⟨_, rfl, gt rfl (CoP.refl _)⟩, trivial⟩ rfl rfl ?_
 refine s9 ?_; refine a6 ?_; refine a7 ?_; refine sx7 ?_; (iterate 4 refine qy ?_); refine a6 ?_; refine a8 _ rfl (fun r0 => ?_) (fun r0 => ?_)
 ·
  have h0 := of_decide_eq_true r0
  try simp only [ty] at h0
  refine sx7 ?_; refine qy ?_; refine s9 ?_; refine qy ?_; refine a6 ?_; refine bi ?_; refine ⟨.inr rfl, ?_⟩
  have he : l5 n l row = (0, [], 3) := if_pos (by omega)
  exact f9 rfl rfl (by rw [he]; exact ⟨CoC.agg ⟨CoP.refl _, fb, trivial⟩, CoC.refl _, trivial⟩)
 ·
  have h0 := of_decide_eq_false r0
  try simp only [ty] at h0
  refine aa ?_; refine sx7 ?_; refine qy ?_; refine s9 ?_; refine qy ?_; refine a6 ?_; refine bi ?_; refine ⟨.inr rfl, ?_⟩
  have he : l5 n l row = (n, c4 (l ++ [row]), 0) := if_neg (by omega)
  exact f9 rfl rfl (by rw [he]; exact CoL.refl _)
theorem ajs : goodFn Tryz.prog 183 := ⟨Tryz.f183, Tryz.func183, by kernel_rfl, by kernel_rfl⟩
theorem alg (n : Int) (l : List Rw) (p m : List Fd) (i a b : Nat) (hT : tok n l = true) (ha : a < l.length) (hb : b < l.length) (hi : i < p.length) (hu : inU n (p.getD i default) = true) : ai Tryz.prog 183 [pT n l, pP (fdl p), pP (fdl m), .agg [.raw (.bool false), .raw (.int .i64 (i : Int)), .raw (.int .i64 (a : Int)), .raw (.int .i64 (b : Int))]] (al [pT (fdE n l a b (p.getD i default)).1 (fdE n l a b (p.getD i default)).2.1, pI (fdE n l a b (p.getD i default)).2.2]) := by
 refine aj (nt := 75) ah Tryz.func183 rfl rfl l9 ?_; refine a7 ?_
 obtain ⟨hn0, hn16, hl256, hrow⟩ := jd hT
 have hra := hrow a ha
 have hrb := hrow b hb
 have hbig : ∀ i, i < l.length → (l.getD i default).length ≤ 17592186044416 := fun i hi => by rw [hrow i hi]; omega
 refine gy ?_; refine m9 0 ?_; refine m9 1 ?_; refine m9 2 ?_; refine qy ?_; refine a6 ?_; refine a7 ?_; refine br (E := c6) ah bh [0, 1, 2, 3, 4, 5, 6, 7, 8, 9, 10, 11, 12, 13] ?_
 (iterate 14 refine qy ?_); refine a6 ?_; refine ⟨by kernel_rfl, ?_⟩; refine a7 ?_; refine sx7 ?_; (iterate 3 refine qy ?_); refine a6 ?_; refine a8 _ rfl (fun _ => ?_) (fun e => by cases e); refine a7 ?_
 refine sx7 ?_; (iterate 8 refine qy ?_); refine rc rfl rfl rfl rfl rfl rfl s6 (ux (l.getD a default) (l.getD b default) (p.getD i default).lhs (by omega) (by omega)) (CoL.refl _) rfl rfl ?_; refine qy ?_; refine a6 ?_
 refine a8 _ rfl (fun r0 => ?_) (fun r0 => ?_)
 ·
  have h0 := r0
  have h0 := b8 h0
  refine sx7 ?_; refine qy ?_; refine s9 ?_; refine qy ?_; refine a6 ?_; refine bi ?_; refine ⟨.inr rfl, ?_⟩
  have he : fdE n l a b (p.getD i default) = (0, [], 1) := if_neg (by simp_all)
  exact f9 rfl rfl (by rw [he]; exact ⟨CoC.agg ⟨CoP.refl _, fb, trivial⟩, CoC.refl _, trivial⟩)
 ·
  have h0 := r0
  have h0 := b7 h0
  refine aa ?_; refine a7 ?_; refine br (E := c6) ah bh [0, 1, 2, 3, 4, 5, 6, 7, 8, 9, 10, 11, 12, 13] ?_; (iterate 11 refine qy ?_)
  refine rc rfl rfl rfl rfl rfl rfl ajv (am6 n l (p.getD i default).rhs a b hbig (by omega) ha hb (fun j hj i hi => by rw [hrow i hi]; exact a1r hn0 hn16 hu hj)) (CoL.refl _) rfl rfl ?_; refine s9 ?_; refine qy ?_
  refine a6 ?_; refine ⟨by kernel_rfl, ?_⟩; refine bi ?_; refine ⟨.inr rfl, ?_⟩
  have he : fdE n l a b (p.getD i default) = (n, c4 (cr l (eqMs (da l) a b (aw (p.getD i default).rhs))), 0) := if_pos (by simp_all)
  exact f9 rfl rfl (by rw [he]; exact CoL.refl _)
theorem aka (n : Int) (l : List Rw) (p m : List Fd) (i a b : Nat) (hT : tok n l = true) (ha : a < l.length) (hb : b < l.length) (hi : i < m.length) : ai Tryz.prog 183 [pT n l, pP (fdl p), pP (fdl m), .agg [.raw (.bool true), .raw (.int .i64 (i : Int)), .raw (.int .i64 (a : Int)), .raw (.int .i64 (b : Int))]] (al [pT (mvE n l a b (m.getD i default)).1 (mvE n l a b (m.getD i default)).2.1, pI (mvE n l a b (m.getD i default)).2.2]) := by
 refine aj (nt := 75) ah Tryz.func183 rfl rfl l9 ?_; refine a7 ?_
 obtain ⟨hn0, hn16, hl256, hrow⟩ := jd hT
 have hra := hrow a ha
 have hrb := hrow b hb
 have hbig : ∀ i, i < l.length → (l.getD i default).length ≤ 17592186044416 := fun i hi => by rw [hrow i hi]; omega
 refine gy ?_; refine m9 0 ?_; refine m9 1 ?_; refine m9 2 ?_; refine qy ?_; refine a6 ?_; refine a7 ?_; refine br (E := c6) ah bh [0, 1, 2, 3, 4, 5, 6, 7, 8, 9, 10, 11, 12, 13] ?_
 (iterate 14 refine qy ?_); refine a6 ?_; refine ⟨by kernel_rfl, ?_⟩; refine a7 ?_; refine sx7 ?_; (iterate 3 refine qy ?_); refine a6 ?_; refine a8 _ rfl (fun e => by cases e) (fun _ => ?_); refine aa ?_
 refine sx7 ?_; (iterate 5 refine qy ?_); refine m9 3 ?_; refine s9 ?_; refine a6 ?_; refine a7 ?_; refine sx7 ?_; (iterate 4 refine qy ?_)
 refine rc rfl rfl rfl rfl rfl rfl s6 (ux (l.getD a default) (l.getD b default) (m.getD i default).lhs (by omega) (by omega)) (CoL.refl _) rfl rfl ?_; refine qy ?_; refine a6 ?_
 refine a8 _ rfl (fun r0 => ?_) (fun r0 => ?_)
 ·
  have h0 := r0
  have h0 := b8 h0
  refine sx7 ?_; refine qy ?_; refine s9 ?_; refine qy ?_; refine a6 ?_; refine bi ?_; refine ⟨.inr rfl, ?_⟩
  have he : mvE n l a b (m.getD i default) = (0, [], 1) := if_neg (by simp_all)
  exact f9 rfl rfl (by rw [he]; exact ⟨CoC.agg ⟨CoP.refl _, fb, trivial⟩, CoC.refl _, trivial⟩)
 ·
  have h0 := r0
  have h0 := b7 h0
  refine aa ?_; refine a7 ?_; refine br (E := c6) ah bh [0, 1, 2, 3, 4, 5, 6, 7, 8, 9, 10, 11, 12, 13] ?_; (iterate 8 refine qy ?_)
  refine rc rfl rfl rfl rfl rfl rfl a8c (ade (l.getD a default) (l.getD b default) ((m.getD i default).lhs ||| (m.getD i default).rhs) (by omega) (by omega)) (⟨CoC.refl _, CoC.refl _, cci (by rw [bOr]; rfl), trivial⟩) rfl rfl ?_
  refine rc rfl rfl rfl rfl rfl rfl ajk (aqu n l (dx (l.getD a default) (l.getD b default) ((m.getD i default).lhs ||| (m.getD i default).rhs)) hbig (by omega)) (CoL.refl _) rfl rfl ?_; (iterate 2 refine qy ?_)
  refine s9 ?_; refine qy ?_; refine a6 ?_; refine ⟨by kernel_rfl, ?_⟩; refine bi ?_; refine ⟨.inr rfl, ?_⟩
  have he : mvE n l a b (m.getD i default) = l5 n l (dx (l.getD a default) (l.getD b default) ((m.getD i default).lhs ||| (m.getD i default).rhs)) := if_pos (by simp_all)
  exact f9 rfl rfl (by rw [he]; exact CoL.refl _)
end Go.Hx
end
section
namespace Go.Hx
def ir (P : Nat → Nat → Nat → Bool) (I L : Nat) : Option (Nat × Nat × Nat) :=
 (List.range I).findSome? fun i => (List.range L).findSome? fun a => ((List.range L).find? fun b => P i a b).map fun b => (i, a, b)
theorem a1j {α : Type} {f : Nat → Option α} : ∀ {n k : Nat} {x : α}, k < n → f k = some x → (∀ j, j < k → f j = none) → (List.range n).findSome? f = some x
 | n + 1, k, x, hk, h, hb => by
  rw [List.range_succ, List.findSome?_append]
  by_cases e : k < n
  · rw [a1j e h hb]; rfl
  · obtain rfl : k = n := by omega
    have : (List.range k).findSome? f = none := by
     rw [List.findSome?_eq_none_iff]
     intro j hj
     exact hb j (List.mem_range.1 hj)
    rw [this]
    simp [h]
theorem a1e {α : Type} {f : Nat → Option α} {n : Nat} (h : ∀ j, j < n → f j = none) : (List.range n).findSome? f = none := by
 rw [List.findSome?_eq_none_iff]
 intro j hj
 exact h j (List.mem_range.1 hj)
theorem wg {p : Nat → Bool} {n : Nat} (h : ∀ j, j < n → p j = false) : (List.range n).find? p = none := by
 rw [List.find?_eq_none]
 intro j hj
 rw [h j (List.mem_range.1 hj)]
 decide
theorem alc {p : Nat → Bool} {n k : Nat} (hk : k < n) (h : p k = true) (hb : ∀ j, j < k → p j = false) : (List.range n).find? p = some k := by
 induction n with
 | zero => omega
 | succ n ih =>
  rw [List.range_succ, List.find?_append]
  by_cases e : k < n
  · rw [ih e]; rfl
  · obtain rfl : k = n := by omega
    rw [wg hb]
    simp [h]
theorem xw {P : Nat → Nat → Nat → Bool} {I L i a b : Nat} (hi : i < I) (ha : a < L) (hb : b < L) (h : P i a b = true) (h1 : ∀ i', i' < i → ∀ a', a' < L → ∀ b', b' < L → P i' a' b' = false) (h2 : ∀ a', a' < a → ∀ b', b' < L → P i a' b' = false) (h3 : ∀ b', b' < b → P i a b' = false) :
 ir P I L = some (i, a, b) := by
 refine a1j hi ?_ fun j hj => a1e fun a' ha' => by rw [wg fun b' hb' => h1 j hj a' ha' b' hb']; rfl
 refine a1j ha ?_ fun a' ha' => by rw [wg fun b' hb' => h2 a' ha' b' hb']; rfl
 rw [alc hb h h3]
 rfl
theorem xk {P : Nat → Nat → Nat → Bool} {I L : Nat} (h : ∀ i', i' < I → ∀ a', a' < L → ∀ b', b' < L → P i' a' b' = false) : ir P I L = none :=
 a1e fun i hi => a1e fun a ha => by rw [wg fun b hb => h i hi a ha b hb]; rfl
def f7 (l : List Rw) (x : Fd) (a b : Nat) : Bool := gw (l.getD a default) (l.getD b default) x.lhs && !gw (l.getD a default) (l.getD b default) x.rhs
def f4 (l : List Rw) (x : Fd) (a b : Nat) : Bool := gw (l.getD a default) (l.getD b default) x.lhs && !(l.any fun r => decide (r = dx (l.getD a default) (l.getD b default) (x.lhs ||| x.rhs)))
section
variable {l : List Rw} {x : Fd} {a b : Nat}
theorem akp (h : gw (l.getD a default) (l.getD b default) x.lhs = true) (h2 : gw (l.getD a default) (l.getD b default) x.rhs = false) : f7 l x a b = true := by unfold f7; rw [h, h2]; rfl
theorem a69 (h : gw (l.getD a default) (l.getD b default) x.lhs = false) : f7 l x a b = false := by unfold f7; rw [h]; rfl
theorem a4g (h : gw (l.getD a default) (l.getD b default) x.rhs = true) : f7 l x a b = false := by unfold f7; rw [h]; simp
theorem alv (h : gw (l.getD a default) (l.getD b default) x.lhs = true) (h2 : (l.any fun r => decide (r = dx (l.getD a default) (l.getD b default) (x.lhs ||| x.rhs))) = false) : f4 l x a b = true := by unfold f4; rw [h, h2]; rfl
theorem a54 (h : gw (l.getD a default) (l.getD b default) x.lhs = false) : f4 l x a b = false := by unfold f4; rw [h]; rfl
theorem a49 (h : (l.any fun r => decide (r = dx (l.getD a default) (l.getD b default) (x.lhs ||| x.rhs))) = true) : f4 l x a b = false := by unfold f4; rw [h]; simp
end
abbrev St := Bool × Nat × Nat × Nat
abbrev St.pc (s : St) : PC := .agg [.raw (.bool s.1), .raw (.int .i64 (s.2.1 : Int)), .raw (.int .i64 (s.2.2.1 : Int)), .raw (.int .i64 (s.2.2.2 : Int))]
def eq (l : List Rw) (p m : List Fd) : Option St :=
 match ir (fun i a b => f7 l (p.getD i default) a b) p.length l.length with
 | some x => some (false, x)
 | none => (ir (fun i a b => f4 l (m.getD i default) a b) m.length l.length).map fun x => (true, x)
theorem alz {l : List Rw} {p m : List Fd} {x : Nat × Nat × Nat} (h : ir (fun i a b => f7 l (p.getD i default) a b) p.length l.length = some x) : eq l p m = some (false, x) := by unfold eq; rw [h]
theorem alf {l : List Rw} {p m : List Fd} {x : Nat × Nat × Nat} (h0 : ir (fun i a b => f7 l (p.getD i default) a b) p.length l.length = none) (h : ir (fun i a b => f4 l (m.getD i default) a b) m.length l.length = some x) : eq l p m = some (true, x) := by unfold eq; rw [h0, h]; rfl
theorem al2 {l : List Rw} {p m : List Fd} (h0 : ir (fun i a b => f7 l (p.getD i default) a b) p.length l.length = none) (h : ir (fun i a b => f4 l (m.getD i default) a b) m.length l.length = none) : eq l p m = none := by unfold eq; rw [h0, h]; rfl
end Go.Hx
end
section
namespace Go.Hx
open Go.Proofs
set_option maxRecDepth 100000
set_option maxHeartbeats 1000000
theorem ak7 : goodFn Tryz.prog 182 := ⟨Tryz.f182, Tryz.func182, by kernel_rfl, by kernel_rfl⟩
theorem ano (n : Int) (l : List Rw) (p m : List Fd) (hT : tok n l = true) : ai Tryz.prog 182 [pT n l, pP (fdl p), pP (fdl m)] (al [St.pc ((eq l p m).getD (false, 0, 0, 0)), pB (eq l p m).isSome]) := by
 refine aj (nt := 132) ah Tryz.func182 rfl rfl l9 ?_; refine a7 ?_
 obtain ⟨hn0, hn16, hl256, hrow⟩ := jd hT
 refine en 1 rfl fun hn1 => ?_
 refine en 2 rfl fun hn2 => ?_
 refine gy ?_; refine m9 0 ?_; refine m9 1 ?_; refine qy ?_; refine a6 ?_; refine a7 ?_; refine sx7 ?_; (iterate 3 refine qy ?_); refine a6 ?_; refine ab ?_
 refine ao (ι := Nat) ⟨[(2, some _), (3, some _), (6, some _), (16, some _), (17, some _)], [(0, some _), (1, some _)]⟩ ⟨⟨c9, c9, c9, c9, c9, trivial⟩, ⟨u9, u9, trivial⟩⟩ (fun i => ⟨[(18, some (vI i))], []⟩) (fun i => i ≤ p.length ∧ (∀ i', i' < i → ∀ a', a' < l.length → ∀ b', b' < l.length → f7 l (p.getD i' default) a' b' = false)) (fun i => p.length - i) (0) (⟨Nat.zero_le _, d3⟩) ⟨⟨zy, trivial⟩, trivial⟩ ?_
 rintro i ⟨hi, hI⟩
 refine sx7 ?_; refine qy ?_; refine a6 ?_; refine a7 ?_; refine a8 _ rfl (fun r0 => ?_) (fun r0 => ?_)
 ·
  have h0 := of_decide_eq_true r0
  try simp only [ty] at h0
  refine aa ?_; refine a7 ?_; refine ab ?_; refine sx7 ?_; (iterate 3 refine qy ?_); refine m9 2 ?_; refine qy ?_; refine s9 ?_; refine a6 ?_; refine sx7 ?_; (iterate 4 refine qy ?_); refine a6 ?_
  refine ab ?_
  refine ao (ι := Nat) ⟨[(2, some _), (3, some _), (6, some _), (8, some _), (9, some _), (16, some _), (17, some _), (18, some _), (25, some _)], [(0, some _), (1, some _), (2, some _)]⟩ ⟨⟨c9, c9, c9, c9, c9, c9, c9, c9, c9, trivial⟩, ⟨u9, u9, u9, trivial⟩⟩ (fun a => ⟨[(26, some (vI a))], []⟩) (fun a => a ≤ l.length ∧ (∀ a', a' < a → ∀ b', b' < l.length → f7 l (p.getD i default) a' b' = false)) (fun a => l.length - a) (0) (⟨Nat.zero_le _, d3⟩) ⟨⟨zy, trivial⟩, trivial⟩ ?_
  rintro a ⟨ha, hA⟩
  refine sx7 ?_; refine qy ?_; refine a6 ?_; refine a7 ?_; refine a8 _ rfl (fun r1 => ?_) (fun r1 => ?_)
  ·
   have h1 := of_decide_eq_true r1
   try simp only [ty] at h1
   refine aa ?_; refine a7 ?_; refine ab ?_; refine sx7 ?_; (iterate 2 refine qy ?_); refine a6 ?_; refine sx7 ?_; (iterate 4 refine qy ?_); refine a6 ?_; refine ab ?_
   refine ao (ι := Nat) ⟨[(2, some _), (3, some _), (6, some _), (8, some _), (9, some _), (10, some _), (16, some _), (17, some _), (18, some _), (25, some _), (26, some _), (31, some _)], [(0, some _), (1, some _), (2, some _)]⟩ ⟨⟨c9, c9, c9, c9, c9, c9, c9, c9, c9, c9, c9, c9, trivial⟩, ⟨u9, u9, u9, trivial⟩⟩ (fun b => ⟨[(32, some (vI b))], []⟩) (fun b => b ≤ l.length ∧ (∀ b', b' < b → f7 l (p.getD i default) a b' = false)) (fun b => l.length - b) (0) (⟨Nat.zero_le _, d3⟩) ⟨⟨zy, trivial⟩, trivial⟩ ?_
   rintro b ⟨hb, hB⟩
   refine sx7 ?_; refine qy ?_; refine a6 ?_; refine a7 ?_; refine a8 _ rfl (fun r2 => ?_) (fun r2 => ?_)
   ·
    have h2 := of_decide_eq_true r2
    try simp only [ty] at h2
    refine aa ?_; refine a7 ?_; refine ab ?_; refine sx7 ?_; (iterate 2 refine qy ?_); refine a6 ?_; refine a7 ?_
    refine br (E := c6) ah bh [0, 1, 2, 3, 4, 5, 6, 7, 8, 9, 10, 11, 12, 13, 14, 15, 16, 17, 18, 19, 20, 21, 22, 23, 24, 25, 26, 27, 28] ?_; (iterate 12 refine qy ?_)
    refine rc rfl rfl rfl rfl rfl rfl s6 (ux (l.getD a default) (l.getD b default) (p.getD i default).lhs (by rw [hrow _ (by omega), hrow _ (by omega)]) (by rw [hrow _ (by omega)]; omega)) (CoL.refl _) rfl rfl ?_
    refine qy ?_; refine ca rfl rfl (fun r3 => ?_) (fun r3 => ?_)
    ·
     have h3 := r3
     (iterate 12 refine qy ?_ (hg := (gtt r3)))
     refine rc rfl rfl rfl rfl rfl rfl s6 (ux (l.getD a default) (l.getD b default) (p.getD i default).rhs (by rw [hrow _ (by omega), hrow _ (by omega)]) (by rw [hrow _ (by omega)]; omega)) (CoL.refl _) rfl (gtt r3) ?_
     refine qy ?_ (hg := (gtt r3)); refine qy ?_; refine a6 ?_; refine ⟨by kernel_rfl, ?_⟩; refine a8 _ rfl (fun r4 => ?_) (fun r4 => ?_)
     ·
      have h4 := r4
      have h4 := im r3 h4
      have h4 := b8 h4
      refine sx7 ?_; (iterate 4 refine qy ?_); refine s9 ?_; refine qy ?_; refine a6 ?_; refine bi ?_; refine ⟨.inr rfl, ?_⟩
      have he := alz (m := m) (xw (P := fun i a b => f7 l (p.getD i default) a b) (i := i) (a := a) (b := b) (by omega) (by omega) (by omega) (akp (by assumption) (by assumption)) hI hA hB)
      exact f9 rfl rfl (by rw [he]; exact CoL.refl _)
     ·
      have h4 := r4
      have h4 := im r3 h4
      have h4 := b7 h4
      refine aa ?_; refine gy ?_; (iterate 2 refine qy ?_); refine a6 ?_; refine ⟨b + 1, ?_, ?_, ?_⟩
      · exact ⟨by show b + 1 ≤ _; omega, c8 hB (by first | exact a69 (by assumption) | exact a4g (by assumption))⟩
      · first | omega | (dsimp only; omega)
      · exact ⟨⟨zy, c9, c9, c9, c9, c9, c9, c9, c9, c9, c9, c9, c9, trivial⟩, ⟨u9, u9, u9, trivial⟩⟩
    ·
     have h3 := r3
     (iterate 14 refine k9 (gft r3) ?_); refine rq rfl rfl rfl rfl rfl ?_ (hp := r3); refine a6 ?_; refine ⟨by kernel_rfl, ?_⟩; refine a8 _ rfl (fun e => by cases e) (fun _ => ?_); refine aa ?_; refine gy ?_
     (iterate 2 refine qy ?_); refine a6 ?_; refine ⟨b + 1, ?_, ?_, ?_⟩
     · exact ⟨by show b + 1 ≤ _; omega, c8 hB (by first | exact a69 (by assumption) | exact a4g (by assumption))⟩
     · first | omega | (dsimp only; omega)
     · exact ⟨⟨zy, c9, c9, c9, c9, c9, c9, c9, c9, c9, c9, c9, c9, trivial⟩, ⟨u9, u9, u9, trivial⟩⟩
   ·
    have h2 := of_decide_eq_false r2
    try simp only [ty] at h2
    refine ar ?_; refine gy ?_; (iterate 2 refine qy ?_); refine a6 ?_; refine ⟨a + 1, ?_, ?_, ?_⟩
    · exact ⟨by show a + 1 ≤ _; omega, c8 hA (fun b' hb' => hB b' (by omega))⟩
    · first | omega | (dsimp only; omega)
    · exact ⟨⟨zy, c9, c9, c9, c9, c9, c9, c9, c9, c9, trivial⟩, ⟨u9, u9, u9, trivial⟩⟩
  ·
   have h1 := of_decide_eq_false r1
   try simp only [ty] at h1
   refine ar ?_; refine gy ?_; (iterate 2 refine qy ?_); refine a6 ?_; refine ⟨i + 1, ?_, ?_, ?_⟩
   · exact ⟨by show i + 1 ≤ _; omega, c8 hI (fun a' ha' => hA a' (by omega))⟩
   · first | omega | (dsimp only; omega)
   · exact ⟨⟨zy, c9, c9, c9, c9, c9, trivial⟩, ⟨u9, u9, trivial⟩⟩
 ·
  have h0 := of_decide_eq_false r0
  try simp only [ty] at h0
  obtain rfl : i = p.length := by omega
  have hno := xk (P := fun i a b => f7 l (p.getD i default) a b) (I := p.length) (L := l.length) hI
  refine ar ?_; refine a7 ?_; refine sx7 ?_; (iterate 3 refine qy ?_); refine a6 ?_; refine ab ?_
  refine ao (ι := Nat) ⟨[(3, some _), (6, some _), (71, some _), (72, some _)], [(0, some _), (1, some _)]⟩ ⟨⟨c9, c9, c9, c9, trivial⟩, ⟨u9, u9, trivial⟩⟩ (fun k => ⟨[(73, some (vI k))], []⟩) (fun k => k ≤ m.length ∧ (∀ i', i' < k → ∀ a', a' < l.length → ∀ b', b' < l.length → f4 l (m.getD i' default) a' b' = false)) (fun k => m.length - k) (0) (⟨Nat.zero_le _, d3⟩) ⟨⟨zy, trivial⟩, trivial⟩ ?_
  rintro k ⟨hk, hK⟩
  refine sx7 ?_; refine qy ?_; refine a6 ?_; refine a7 ?_; refine a8 _ rfl (fun r5 => ?_) (fun r5 => ?_)
  ·
   have h5 := of_decide_eq_true r5
   try simp only [ty] at h5
   refine aa ?_; refine a7 ?_; refine ab ?_; refine sx7 ?_; (iterate 3 refine qy ?_); refine m9 3 ?_; refine qy ?_; refine s9 ?_; refine a6 ?_; refine sx7 ?_; (iterate 4 refine qy ?_); refine a6 ?_
   refine ab ?_
   refine ao (ι := Nat) ⟨[(3, some _), (6, some _), (12, some _), (13, some _), (71, some _), (72, some _), (73, some _), (80, some _)], [(0, some _), (1, some _), (3, some _)]⟩ ⟨⟨c9, c9, c9, c9, c9, c9, c9, c9, trivial⟩, ⟨u9, u9, u9, trivial⟩⟩ (fun c => ⟨[(81, some (vI c))], []⟩) (fun c => c ≤ l.length ∧ (∀ a', a' < c → ∀ b', b' < l.length → f4 l (m.getD k default) a' b' = false)) (fun c => l.length - c) (0) (⟨Nat.zero_le _, d3⟩) ⟨⟨zy, trivial⟩, trivial⟩ ?_
   rintro c ⟨hc, hC⟩
   refine sx7 ?_; refine qy ?_; refine a6 ?_; refine a7 ?_; refine a8 _ rfl (fun r6 => ?_) (fun r6 => ?_)
   ·
    have h6 := of_decide_eq_true r6
    try simp only [ty] at h6
    refine aa ?_; refine a7 ?_; refine ab ?_; refine sx7 ?_; (iterate 2 refine qy ?_); refine a6 ?_; refine sx7 ?_; (iterate 4 refine qy ?_); refine a6 ?_; refine ab ?_
    refine ao (ι := Nat) ⟨[(3, some _), (6, some _), (12, some _), (13, some _), (14, some _), (71, some _), (72, some _), (73, some _), (80, some _), (81, some _), (86, some _)], [(0, some _), (1, some _), (3, some _)]⟩ ⟨⟨c9, c9, c9, c9, c9, c9, c9, c9, c9, c9, c9, trivial⟩, ⟨u9, u9, u9, trivial⟩⟩ (fun d => ⟨[(87, some (vI d))], []⟩) (fun d => d ≤ l.length ∧ (∀ b', b' < d → f4 l (m.getD k default) c b' = false)) (fun d => l.length - d) (0) (⟨Nat.zero_le _, d3⟩) ⟨⟨zy, trivial⟩, trivial⟩ ?_
    rintro d ⟨hd, hD⟩
    refine sx7 ?_; refine qy ?_; refine a6 ?_; refine a7 ?_; refine a8 _ rfl (fun r7 => ?_) (fun r7 => ?_)
    ·
     have h7 := of_decide_eq_true r7
     try simp only [ty] at h7
     refine aa ?_; refine a7 ?_; refine ab ?_; refine sx7 ?_; (iterate 2 refine qy ?_); refine a6 ?_; refine a7 ?_
     refine br (E := c6) ah bh [0, 1, 2, 3, 4, 5, 6, 7, 8, 9, 10, 11, 12, 13, 14, 15, 16, 17, 18, 19, 20, 21, 22, 23, 24, 25, 26, 27, 28, 29, 30, 31, 32, 33] ?_; (iterate 12 refine qy ?_)
     refine rc rfl rfl rfl rfl rfl rfl s6 (ux (l.getD c default) (l.getD d default) (m.getD k default).lhs (by rw [hrow _ (by omega), hrow _ (by omega)]) (by rw [hrow _ (by omega)]; omega)) (CoL.refl _) rfl rfl ?_
     refine qy ?_; refine ca rfl rfl (fun r8 => ?_) (fun r8 => ?_)
     ·
      have h8 := r8
      (iterate 16 refine qy ?_ (hg := (gtt r8)))
      refine rc rfl rfl rfl rfl rfl rfl a8c (ade (l.getD c default) (l.getD d default) ((m.getD k default).lhs ||| (m.getD k default).rhs) (by rw [hrow _ (by omega), hrow _ (by omega)]) (by rw [hrow _ (by omega)]; omega)) (⟨CoC.refl _, CoC.refl _, cci (by rw [bOr]; rfl), trivial⟩) rfl (gtt r8) ?_
      refine rc rfl rfl rfl rfl rfl rfl abx (aig n l (dx (l.getD c default) (l.getD d default) ((m.getD k default).lhs ||| (m.getD k default).rhs))) (CoL.refl _) rfl (gtt r8) ?_; refine qy ?_ (hg := (gtt r8))
      refine qy ?_; refine a6 ?_; refine ⟨by kernel_rfl, ?_⟩; refine a8 _ rfl (fun r9 => ?_) (fun r9 => ?_)
      ·
       have h9 := r9
       have h9 := im r8 h9
       have h9 := b8 h9
       refine sx7 ?_; (iterate 4 refine qy ?_); refine s9 ?_; refine qy ?_; refine a6 ?_; refine bi ?_; refine ⟨.inr rfl, ?_⟩
       have he := alf hno (xw (P := fun i a b => f4 l (m.getD i default) a b) (i := k) (a := c) (b := d) (by omega) (by omega) (by omega) (alv (by assumption) (by assumption)) hK hC hD)
       exact f9 rfl rfl (by rw [he]; exact CoL.refl _)
      ·
       have h9 := r9
       have h9 := im r8 h9
       have h9 := b7 h9
       refine aa ?_; refine gy ?_; (iterate 2 refine qy ?_); refine a6 ?_; refine ⟨d + 1, ?_, ?_, ?_⟩
       · exact ⟨by show d + 1 ≤ _; omega, c8 hD (by first | exact a54 (by assumption) | exact a49 (by assumption))⟩
       · first | omega | (dsimp only; omega)
       · exact ⟨⟨zy, c9, c9, c9, c9, c9, c9, c9, c9, c9, c9, c9, trivial⟩, ⟨u9, u9, u9, trivial⟩⟩
     ·
      have h8 := r8
      (iterate 19 refine k9 (gft r8) ?_); refine rq rfl rfl rfl rfl rfl ?_ (hp := r8); refine a6 ?_; refine ⟨by kernel_rfl, ?_⟩; refine a8 _ rfl (fun e => by cases e) (fun _ => ?_); refine aa ?_; refine gy ?_
      (iterate 2 refine qy ?_); refine a6 ?_; refine ⟨d + 1, ?_, ?_, ?_⟩
      · exact ⟨by show d + 1 ≤ _; omega, c8 hD (by first | exact a54 (by assumption) | exact a49 (by assumption))⟩
      · first | omega | (dsimp only; omega)
      · exact ⟨⟨zy, c9, c9, c9, c9, c9, c9, c9, c9, c9, c9, c9, trivial⟩, ⟨u9, u9, u9, trivial⟩⟩
    ·
     have h7 := of_decide_eq_false r7
     try simp only [ty] at h7
     refine ar ?_; refine gy ?_; (iterate 2 refine qy ?_); refine a6 ?_; refine ⟨c + 1, ?_, ?_, ?_⟩
     · exact ⟨by show c + 1 ≤ _; omega, c8 hC (fun b' hb' => hD b' (by omega))⟩
     · first | omega | (dsimp only; omega)
     · exact ⟨⟨zy, c9, c9, c9, c9, c9, c9, c9, c9, trivial⟩, ⟨u9, u9, u9, trivial⟩⟩
   ·
    have h6 := of_decide_eq_false r6
    try simp only [ty] at h6
    refine ar ?_; refine gy ?_; (iterate 2 refine qy ?_); refine a6 ?_; refine ⟨k + 1, ?_, ?_, ?_⟩
    · exact ⟨by show k + 1 ≤ _; omega, c8 hK (fun a' ha' => hC a' (by omega))⟩
    · first | omega | (dsimp only; omega)
    · exact ⟨⟨zy, c9, c9, c9, c9, trivial⟩, ⟨u9, u9, trivial⟩⟩
  ·
   have h5 := of_decide_eq_false r5
   try simp only [ty] at h5
   refine ar ?_; refine sx7 ?_; refine qy ?_; refine s9 ?_; refine qy ?_; refine a6 ?_; refine bi ?_; refine ⟨.inr rfl, ?_⟩
   have he := al2 hno (xk (P := fun i a b => f4 l (m.getD i default) a b) (I := m.length) (L := l.length) fun j hj => hK j (by omega))
   exact f9 rfl rfl (by rw [he]; exact CoL.refl _)
end Go.Hx
end
section
namespace Go.Hx
def stV (n : Int) (i : Nat) (p : AS) (c : Nat) : Int := if dm p (c : Int) = true then (c : Int) else n + (i : Int) * n + (c : Int)
def stT (n : Int) (i : Nat) (p : AS) (k : Nat) : Rw := (List.range n.toNat).map fun c => if c < k then stV n i p c else 0
def stR (n : Int) (i : Nat) (p : AS) : Rw := (List.range n.toNat).map fun c => stV n i p c
def df (n : Int) (ps : List AS) : List Rw := (List.range ps.length).map fun i => stR n i (ps.getD i default)
theorem a7s (n : Int) (i : Nat) (p : AS) : (stR n i p).length = n.toNat := by unfold stR; simp
theorem t8 (n : Int) (ps : List AS) : (df n ps).length = ps.length := by unfold df; simp
theorem adp {n : Int} {ps : List AS} {i : Nat} (h : i < ps.length) : (df n ps).getD i default = stR n i (ps.getD i default) := by
 unfold df
 rw [List.getD_eq_getElem?_getD, List.getElem?_map, List.getElem?_range h]
 rfl
theorem a8t (n : Int) (i : Nat) (p : AS) {k : Nat} (h : n.toNat ≤ k) : stT n i p k = stR n i p := by
 unfold stT stR
 refine List.map_congr_left fun c hc => ?_
 have := List.mem_range.1 hc
 rw [if_pos (by omega)]
theorem a5k {n : Int} {i : Nat} {p : AS} {k c : Nat} (h : c < n.toNat) : (stT n i p k).getD c default = if c < k then stV n i p c else 0 := by
 unfold stT
 rw [List.getD_eq_getElem?_getD, List.getElem?_map, List.getElem?_range h]
 rfl
theorem a3s {n : Int} {i : Nat} {p : AS} {N : Nat} {f : Nat → Nat → PV} (hN : N = n.toNat) (hf : ∀ a, f a 0 = .raw (.int .i64 0)) : CoO (.arr true 1 3 N f) (.arr true 1 3 N (lf zC (stT n i p 0))) :=
 ⟨fun h => h, rfl, rfl, rfl, fun a j ha hj => by
  obtain rfl : j = 0 := by omega
  refine CoP.of_eq ?_
  rw [hf]
  show _ = PV.raw (.int .i64 ((stT n i p 0).getD a default))
  rw [a5k (by omega), if_neg (by omega)]⟩
theorem z6 {n : Int} {i : Nat} {p : AS} {k : Nat} : ∀ c, c < n.toNat → (stT n i p (k + 1)).getD c default = if c = k then stV n i p k else (stT n i p k).getD c default := fun c hc => by
 rw [a5k hc, a5k hc]
 by_cases h : c = k
 · rw [if_pos h, if_pos (by omega), h]
 · rw [if_neg h]
   by_cases h2 : c < k
   · rw [if_pos h2, if_pos (by omega)]
   · rw [if_neg h2, if_neg (by omega)]
theorem aej {n : Int} {i : Nat} {p : AS} {k a b N : Nat} {x : Int} (h : dm p (k : Int) = true) (hN : N = n.toNat) (ha : a = k) (hb : b = k) :
 CoO (.arr true 1 3 N (dq (dq (lf zC (stT n i p k)) a 0 [.raw (.int .i64 x)]) b 0 [.raw (.int .i64 (k : Int))])) (.arr true 1 3 N (lf zC (stT n i p (k + 1)))) := by
 subst ha hb
 refine ⟨fun h => h, rfl, rfl, rfl, fun c j hc hj => CoP.of_eq ?_⟩
 obtain rfl : j = 0 := by omega
 show _ = PV.raw (.int .i64 ((stT n i p (b + 1)).getD c default))
 rw [z6 c (by omega)]
 unfold dq
 by_cases e : c = b
 · rw [if_pos ⟨e, by omega, by simp⟩, if_pos e]
   unfold stV
   rw [if_pos h]
   rfl
 · rw [if_neg (fun x => e x.1), if_neg (fun x => e x.1), if_neg e]
   rfl
theorem acd {n : Int} {i : Nat} {p : AS} {k a N : Nat} (h : ¬ dm p (k : Int) = true) (hN : N = n.toNat) (ha : a = k) :
 CoO (.arr true 1 3 N (dq (lf zC (stT n i p k)) a 0 [.raw (.int .i64 (n + (i : Int) * n + (k : Int)))])) (.arr true 1 3 N (lf zC (stT n i p (k + 1)))) := by
 subst ha
 refine ⟨fun h => h, rfl, rfl, rfl, fun c j hc hj => CoP.of_eq ?_⟩
 obtain rfl : j = 0 := by omega
 show _ = PV.raw (.int .i64 ((stT n i p (a + 1)).getD c default))
 rw [z6 c (by omega)]
 unfold dq
 by_cases e : c = a
 · rw [if_pos ⟨e, by omega, by simp⟩, if_pos e]
   unfold stV
   rw [if_neg h]
   rfl
 · rw [if_neg (fun x => e x.1), if_neg e]
   rfl
theorem aix {s : AS} {n : Int} : (asI s).fdiv (2 ^ (min n.toNat 32)) = 0 ↔ s >>> n.toNat = 0 := by
 rw [pf, show (0 : Int) = asI 0 from rfl, dp]
theorem aro {n : Int} {i : Nat} (h0 : 0 ≤ n) (h1 : n ≤ 16) (hi : i ≤ 64) : 0 ≤ (i : Int) * n ∧ (i : Int) * n ≤ 1024 := by
 refine ⟨Int.mul_nonneg (by omega) h0, ?_⟩
 have h2 : (i : Int) * n ≤ (i : Int) * 16 := Int.mul_le_mul_of_nonneg_left h1 (by omega)
 omega
def dv (n : Int) (ps : List AS) : Int × List Rw × Int :=
 if n < 0 ∨ 16 < n then (0, [], 7) else if 64 < ps.length then (0, [], 3) else if ps.all (fun p => decide (p >>> n.toNat = 0)) = true then (n, c4 (df n ps), 0) else (0, [], 1)
theorem a4o {n : Int} {ps : List AS} (h : n < 0 ∨ 16 < n) : dv n ps = (0, [], 7) := if_pos h
theorem afz {n : Int} {ps : List AS} (h : ¬ (n < 0 ∨ 16 < n)) (h2 : 64 < ps.length) : dv n ps = (0, [], 3) := by unfold dv; rw [if_neg h, if_pos h2]
theorem ahp {n : Int} {ps : List AS} {i : Nat} (h : ¬ (n < 0 ∨ 16 < n)) (h2 : ¬ 64 < ps.length) (hi : i < ps.length) (h3 : ¬ (ps.getD i default) >>> n.toNat = 0) : dv n ps = (0, [], 1) := by
 unfold dv
 rw [if_neg h, if_neg h2, if_neg (fun e => absurd (zq (l := ps) (p := fun p : AS => decide (p >>> n.toNat = 0)) hi (decide_eq_false h3)) (by rw [e]; decide))]
theorem a5n {n : Int} {ps : List AS} (h : ¬ (n < 0 ∨ 16 < n)) (h2 : ¬ 64 < ps.length) (h3 : ∀ j, j < ps.length → (ps.getD j default) >>> n.toNat = 0) : dv n ps = (n, c4 (df n ps), 0) := by
 unfold dv
 rw [if_neg h, if_neg h2, if_pos (a3k (l := ps) (p := fun p : AS => decide (p >>> n.toNat = 0)) fun j hj => decide_eq_true (h3 j hj))]
theorem afx {n : Int} {ps : List AS} {i k : Nat} (hi : i < ps.length) (hk : n.toNat ≤ k) : CoP (.sl n.toNat 1 false (lf zC (stT n i (ps.getD i default) k))) (lf rC (df n ps) i 0) := by
 show CoP _ (zl ((df n ps).getD i default))
 rw [adp hi, a8t n i _ hk]
 exact CoP.sl (a7s _ _ _) (.inl rfl) (fun h => h) fun a j ha hj => CoP.refl _
end Go.Hx
end
section
namespace Go.Hx
open Go.Proofs
set_option maxRecDepth 100000
theorem am0 : goodFn Tryz.prog 148 := ⟨Tryz.f148, Tryz.func148, by kernel_rfl, by kernel_rfl⟩
theorem amr (n : Int) (ps : List AS) : ai Tryz.prog 148 [pI n, pP (asl ps)] (al [pT (dv n ps).1 (dv n ps).2.1, pI (dv n ps).2.2]) := by
 refine aj (nt := 73) ah Tryz.func148 rfl rfl l9 ?_; refine sx7 ?_; refine m9 0 ?_; refine qy ?_; refine a6 ?_; refine a7 ?_; refine ab ?_; refine sx7 ?_; (iterate 3 refine qy ?_)
 refine ca rfl rfl (fun r0 => ?_) (fun r0 => ?_)
 ·
  have h0 := of_decide_eq_true r0
  try simp only [ty] at h0
  (iterate 2 refine k9 (gtf r0) ?_); refine rq rfl rfl rfl rfl rfl ?_ (hp := r0); refine qy ?_; refine a6 ?_; refine a8 _ rfl (fun _ => ?_) (fun e => by cases e); refine sx7 ?_; refine qy ?_; refine s9 ?_; refine qy ?_
  refine a6 ?_; refine bi ?_; refine ⟨.inr rfl, ?_⟩
  have he := a4o (n := n) (ps := ps) (by omega)
  exact f9 rfl rfl (by rw [he]; exact ⟨CoC.agg ⟨CoP.refl _, fb, trivial⟩, CoC.refl _, trivial⟩)
 ·
  have h0 := of_decide_eq_false r0
  try simp only [ty] at h0
  (iterate 2 refine qy ?_ (hg := (gff r0))); (iterate 2 refine qy ?_); refine a6 ?_; refine a8 _ rfl (fun r1 => ?_) (fun r1 => ?_)
  ·
   have h1 := r1
   have h1 := cu r0 h1
   have h1 := of_decide_eq_true h1
   try simp only [ty] at h1
   refine sx7 ?_; refine qy ?_; refine s9 ?_; refine qy ?_; refine a6 ?_; refine bi ?_; refine ⟨.inr rfl, ?_⟩
   have he := a4o (n := n) (ps := ps) (by omega)
   exact f9 rfl rfl (by rw [he]; exact ⟨CoC.agg ⟨CoP.refl _, fb, trivial⟩, CoC.refl _, trivial⟩)
  ·
   have h1 := r1
   have h1 := cu r0 h1
   have h1 := of_decide_eq_false h1
   try simp only [ty] at h1
   refine sx7 ?_; (iterate 4 refine qy ?_); refine a6 ?_; refine a8 _ rfl (fun r2 => ?_) (fun r2 => ?_)
   ·
    have h2 := of_decide_eq_true r2
    try simp only [ty] at h2
    refine sx7 ?_; refine qy ?_; refine s9 ?_; refine qy ?_; refine a6 ?_; refine bi ?_; refine ⟨.inr rfl, ?_⟩
    have he := afz (n := n) (ps := ps) (by omega) (by omega)
    exact f9 rfl rfl (by rw [he]; exact ⟨CoC.agg ⟨CoP.refl _, fb, trivial⟩, CoC.refl _, trivial⟩)
   ·
    have h2 := of_decide_eq_false r2
    try simp only [ty] at h2
    refine aa ?_; refine sx7 ?_; (iterate 2 refine qy ?_); refine m9 1 ?_; refine s9 ?_; refine a6 ?_
    refine tu 1 1 900 true 1 121 (lf rC (df n ps)) (by decide) rfl rfl (CoP.sl rfl (.inr rfl) (fun h => h) (fun i j hi _ => absurd hi (Nat.not_lt_zero i))) (.inr rfl) rfl rfl ?_; refine a7 ?_; refine sx7 ?_
    (iterate 3 refine qy ?_); refine a6 ?_; refine ab ?_
    refine ao (ι := Nat) ⟨[(0, some _), (4, some _), (6, some _), (26, some _), (27, some _)], [(0, some _)]⟩ ⟨⟨c9, c9, c9, c9, c9, trivial⟩, ⟨u9, trivial⟩⟩ (fun i => ⟨[(28, some (vI i))], [(1, some (.box [.p (.raw (.int .i64 n)), .ref 900 i])), (900, some (.arr true 1 121 i (lf rC (df n ps))))]⟩) (fun i => i ≤ ps.length ∧ ∀ j, j < i → (ps.getD j default) >>> n.toNat = 0) (fun i => ps.length - i) (0) (⟨Nat.zero_le _, d3⟩) ⟨⟨zy, trivial⟩, ⟨u9, u9, trivial⟩⟩ ?_
    rintro i ⟨hi, hI⟩
    refine sx7 ?_; refine qy ?_; refine a6 ?_; refine a7 ?_; refine a8 _ rfl (fun r3 => ?_) (fun r3 => ?_)
    ·
     have h3 := of_decide_eq_true r3
     try simp only [ty] at h3
     have hin := aro (n := n) (i := i) (by omega) (by omega) (by omega)
     refine aa ?_; refine a7 ?_; refine ab ?_; refine sx7 ?_; (iterate 5 refine qy ?_); refine a6 ?_; refine a7 ?_; refine sx7 ?_; (iterate 4 refine qy ?_); refine a6 ?_
     refine a8 _ rfl (fun r4 => ?_) (fun r4 => ?_)
     ·
      have h4 := r4
      have h4 := of_decide_eq_false (b8 h4)
      try simp only [ty] at h4
      refine sx7 ?_; refine qy ?_; refine s9 ?_; refine qy ?_; refine a6 ?_; refine bi ?_; refine ⟨.inr rfl, ?_⟩
      have he := ahp (n := n) (ps := ps) (i := i) (by omega) (by omega) (by omega) (fun e => absurd (aix.2 e) (by assumption))
      exact f9 rfl rfl (by rw [he]; exact ⟨CoC.agg ⟨CoP.refl _, fb, trivial⟩, CoC.refl _, trivial⟩)
     ·
      have h4 := r4
      have h4 := of_decide_eq_true (b7 h4)
      try simp only [ty] at h4
      refine aa ?_; refine sx7 ?_; refine qy ?_; refine m9 2 ?_; refine qy ?_; refine a6 ?_; refine a7 ?_; refine sx7 ?_; (iterate 2 refine qy ?_); refine a6 ?_; refine ab ?_
      refine ao (ι := Nat) ⟨[(0, some _), (4, some _), (6, some _), (7, some _), (8, some _), (9, some _), (26, some _), (27, some _), (28, some _), (40, some _)], [(1, some _), (900, some _), (0, some _)]⟩ ⟨⟨c9, c9, c9, c9, c9, c9, c9, c9, c9, c9, trivial⟩, ⟨u9, u9, u9, trivial⟩⟩ (fun k => ⟨[(41, some (vI k))], [(2, some (.arr true 1 3 n.toNat (lf zC (stT n i (ps.getD i default) k))))]⟩) (fun k => k ≤ n.toNat) (fun k => n.toNat - k) (0) (Nat.zero_le _) ⟨⟨zy, trivial⟩, ⟨⟨_, rfl, (a3s rfl (fun _ => rfl))⟩, trivial⟩⟩ ?_
      rintro k hk
      refine sx7 ?_; refine qy ?_; refine a6 ?_; refine a7 ?_; refine a8 _ rfl (fun r5 => ?_) (fun r5 => ?_)
      ·
       have h5 := of_decide_eq_true r5
       try simp only [ty] at h5
       refine aa ?_; refine a7 ?_; refine ab ?_; refine sx7 ?_; (iterate 2 refine qy ?_); refine a6 ?_; refine sx7 ?_; (iterate 10 refine qy ?_); refine s9 ?_; refine a6 ?_; refine sx7 ?_
       (iterate 5 refine qy ?_); refine a6 ?_; refine a8 _ rfl (fun r6 => ?_) (fun r6 => ?_)
       ·
        have h6 := of_decide_eq_true r6
        try simp only [ty] at h6
        refine gy ?_; (iterate 4 refine qy ?_); refine s9 ?_; refine a6 ?_; refine gy ?_; (iterate 2 refine qy ?_); refine a6 ?_; refine ⟨k + 1, ?_, ?_, ?_⟩
        · show k + 1 ≤ _; omega
        · first | omega | (dsimp only; omega)
        · exact ⟨⟨zy, c9, c9, c9, c9, c9, c9, c9, c9, c9, c9, trivial⟩, ⟨⟨_, rfl, (by first | exact aej ((kp (by omega)).1 (by assumption)) rfl (by omega) (by omega) | exact acd (fun e => absurd ((kp (by omega)).2 e) (by assumption)) rfl (by omega))⟩, u9, u9, u9, trivial⟩⟩
       ·
        have h6 := of_decide_eq_false r6
        try simp only [ty] at h6
        refine aa ?_; refine gy ?_; (iterate 2 refine qy ?_); refine a6 ?_; refine ⟨k + 1, ?_, ?_, ?_⟩
        · show k + 1 ≤ _; omega
        · first | omega | (dsimp only; omega)
        · exact ⟨⟨zy, c9, c9, c9, c9, c9, c9, c9, c9, c9, c9, trivial⟩, ⟨⟨_, rfl, (by first | exact aej ((kp (by omega)).1 (by assumption)) rfl (by omega) (by omega) | exact acd (fun e => absurd ((kp (by omega)).2 e) (by assumption)) rfl (by omega))⟩, u9, u9, u9, trivial⟩⟩
      ·
       have h5 := of_decide_eq_false r5
       try simp only [ty] at h5
       refine ar ?_; refine ce 9 rfl rfl rfl ?_; refine gy ?_; (iterate 3 refine qy ?_); refine m9 3 ?_; refine ra 4 true rfl rfl rfl rfl rfl rfl ?_; refine qy ?_; refine s9 ?_; refine a6 ?_; refine gy ?_
       (iterate 2 refine qy ?_); refine a6 ?_; refine ⟨i + 1, ?_, ?_, ?_⟩
       · exact ⟨by show i + 1 ≤ _; omega, c8 hI (aix.1 (by assumption))⟩
       · first | omega | (dsimp only; omega)
       · exact ⟨⟨zy, c9, c9, c9, c9, c9, trivial⟩, ⟨u9, ⟨_, rfl, (a92 (fun h => h) (fun j hj => by obtain rfl : j = 0 := (by omega); exact afx (by omega) (by omega)))⟩, u9, trivial⟩⟩
    ·
     have h3 := of_decide_eq_false r3
     try simp only [ty] at h3
     obtain rfl : i = ps.length := by omega
     refine ar ?_; refine sx7 ?_; refine qy ?_
     refine d5 rfl rfl rfl rfl rfl rfl a1i ((a1p n (df n ps) (by rw [t8]; omega))) (⟨⟨CoP.refl _, congrArg (HV.ref 900) (t8 _ _).symm, trivial⟩, trivial⟩) ⟨⟨_, rfl, a1f rfl (t8 _ _).symm⟩, trivial⟩ rfl rfl ?_
     refine s9 ?_; refine qy ?_; refine a6 ?_; refine bi ?_; refine ⟨.inr rfl, ?_⟩
     have he := a5n (n := n) (ps := ps) (by omega) (by omega) (fun j hj => hI j (by omega))
     exact f9 rfl rfl (by rw [he]; exact CoL.refl _)
end Go.Hx
end
section
namespace Go.Hx
def fg (n : Int) : Rw := (List.range n.toNat).map fun (i : Nat) => (i : Int)
theorem a9q (n : Int) : (fg n).length = n.toNat := by unfold fg; simp
theorem anb {n : Int} {i : Nat} {p : AS} {k : Nat} (h : k < n.toNat) : (stR n i p).getD k default = stV n i p k := by
 unfold stR
 rw [List.getD_eq_getElem?_getD, List.getElem?_map, List.getElem?_range h]
 rfl
theorem aqe {s : AS} {n : Int} (h0 : 0 ≤ n) (h1 : n ≤ 16) : sub s (ay n) ↔ s >>> n.toNat = 0 := by
 unfold ay
 rw [Nat.min_eq_left (by omega)]
 exact jc (by omega)
def apj (l : List Rw) (x : Fd) (a b : Nat) : Bool := gw (l.getD a default) (l.getD b default) x.lhs && !(l.any fun r => decide (r = dx (l.getD a default) (l.getD b default) x.rhs))
end Go.Hx
end
section
namespace Go.Hx
def Wel (n : Int) (l : List Rw) : Prop := ∀ r, r ∈ l → r.length = n.toNat ∧ ∀ z, z ∈ r → 0 ≤ z
theorem wu {l : List Rw} {i : Nat} (h : i < l.length) : l.getD i default ∈ l := by
 rw [List.getD_eq_getElem?_getD, List.getElem?_eq_getElem h]
 exact List.getElem_mem h
theorem w8 {n : Int} {l : List Rw} (h : tok n l = true) : Wel n l := by
 obtain ⟨h0, h1, h2, h3⟩ := jd h
 unfold tok at h
 rw [Bool.and_eq_true, decide_eq_true_iff, decide_eq_true_iff] at h
 rintro r hr
 obtain ⟨i, hi, rfl⟩ := List.getElem_of_mem hr
 have e : l.getD i default = l[i] := by rw [List.getD_eq_getElem?_getD, List.getElem?_eq_getElem hi]; rfl
 rw [← e]
 refine ⟨h3 i hi, fun z hz => ?_⟩
 have := h.2 i hi
 unfold j1 at this
 rw [Bool.and_eq_true, Bool.and_eq_true] at this
 have h4 := this.1.2
 rw [Bool.not_eq_true', List.any_eq_false] at h4
 have := h4 z hz
 rw [decide_eq_true_iff] at this
 omega
theorem ajo {n : Int} {l : List Rw} (h : tok n l = true) : kj l := by
 unfold tok at h
 rw [Bool.and_eq_true, decide_eq_true_iff, decide_eq_true_iff] at h
 have hs : ∀ d i : Nat, i + d + 1 < l.length → ltZ (l.getD i default) (l.getD (i + d + 1) default) = true := by
  intro d
  induction d with
  | zero =>
   intro i hi
   have := h.2 (i + 1) hi
   unfold j1 at this
   rw [Bool.and_eq_true, Bool.or_eq_true, decide_eq_true_iff] at this
   rcases this.2 with h5 | h5
   · omega
   · exact h5
  | succ d ih =>
   intro i hi
   have h1 := ih i (by omega)
   have := h.2 (i + d + 1 + 1) (by omega)
   unfold j1 at this
   rw [Bool.and_eq_true, Bool.or_eq_true, decide_eq_true_iff] at this
   rcases this.2 with h5 | h5
   · omega
   · exact gq h1 h5
 unfold kj
 rw [List.pairwise_iff_getElem]
 intro i j hi hj hij
 obtain ⟨d, rfl⟩ : ∃ d, j = i + d + 1 := ⟨j - i - 1, by omega⟩
 have := hs d i hj
 rwa [List.getD_eq_getElem?_getD, List.getElem?_eq_getElem hi, List.getD_eq_getElem?_getD, List.getElem?_eq_getElem hj] at this
theorem aog {n : Int} {l : List Rw} (h0 : 0 ≤ n) (h1 : n ≤ 16) (h2 : l.length ≤ 256) (hw : Wel n l) (ho : kj l) : tok n l = true := by
 refine aib h0 h1 h2 fun i hi => ?_
 obtain ⟨h3, h4⟩ := hw _ (wu hi)
 refine a4u (by omega) ?_ ?_
 · rw [List.any_eq_false]
   intro z hz
   have := h4 z hz
   rw [decide_eq_true_iff]
   omega
 · rcases Nat.eq_zero_or_pos i with h | h
   · exact .inl h
   · right
     have := List.pairwise_iff_getElem.1 ho (i - 1) i (by omega) hi (by omega)
     rw [List.getD_eq_getElem?_getD, List.getElem?_eq_getElem (by omega), List.getD_eq_getElem?_getD, List.getElem?_eq_getElem hi]
     exact this
theorem a2j {n : Int} {l : List Rw} (h0 : 0 ≤ n) (h1 : n ≤ 16) (h2 : (c4 l).length ≤ 256) (hw : Wel n l) : tok n (c4 l) = true :=
 aog h0 h1 h2 (fun r hr => hw r (dn.1 hr)) (ss l)
def inV (l : List Rw) (M : Nat → Nat → Int) (z : Int) : Prop := ∃ i r, i < l.length ∧ r < (l.getD i default).length ∧ M i r = z
theorem a8v {l : List Rw} {z : Int} : inV l (da l) z ↔ ∃ r, r ∈ l ∧ z ∈ r := by
 constructor
 · rintro ⟨i, r, hi, hr, rfl⟩
   refine ⟨_, wu hi, ?_⟩
   show (l.getD i default).getD r default ∈ _
   rw [List.getD_eq_getElem?_getD (l := l.getD i default), List.getElem?_eq_getElem hr]
   exact List.getElem_mem hr
 · rintro ⟨r, hr, hz⟩
   obtain ⟨i, hi, rfl⟩ := List.getElem_of_mem hr
   obtain ⟨k, hk, rfl⟩ := List.getElem_of_mem hz
   have e : l.getD i default = l[i] := by rw [List.getD_eq_getElem?_getD, List.getElem?_eq_getElem hi]; rfl
   refine ⟨i, k, hi, by rw [e]; exact hk, ?_⟩
   show (l.getD i default).getD k default = _
   rw [e, List.getD_eq_getElem?_getD, List.getElem?_eq_getElem hk]
   rfl
theorem y9 {l : List Rw} {M : Nat → Nat → Int} {z : Int} : (∃ r, r ∈ cr l M ∧ z ∈ r) ↔ inV l M z := by
 constructor
 · rintro ⟨r, hr, hz⟩
   unfold cr at hr
   rw [List.mem_map] at hr
   obtain ⟨i, hi, rfl⟩ := hr
   rw [List.mem_map] at hz
   obtain ⟨k, hk, rfl⟩ := hz
   exact ⟨i, k, List.mem_range.1 hi, List.mem_range.1 hk, rfl⟩
 · rintro ⟨i, k, hi, hk, rfl⟩
   refine ⟨(List.range (l.getD i default).length).map (M i), ?_, List.mem_map.2 ⟨k, List.mem_range.2 hk, rfl⟩⟩
   unfold cr
   exact List.mem_map.2 ⟨i, List.mem_range.2 hi, rfl⟩
section
variable {l : List Rw} {a b : Nat} (ha : a < l.length) (hb : b < l.length)
theorem a9w (x y : Int) : loI x y = x ∨ loI x y = y := by unfold loI; split <;> simp
theorem aj0 (x y : Int) : hiI x y = x ∨ hiI x y = y := by unfold hiI; split <;> simp
include ha hb in
theorem apv {M : Nat → Nat → Int} {j : Nat} (hja : j < (l.getD a default).length) (hjb : j < (l.getD b default).length) {z : Int} (h : inV l (eqM M a b j) z) : inV l M z := by
 obtain ⟨i, r, hi, hr, he⟩ := h
 unfold eqM at he
 split at he
 · rcases a9w (M a j) (M b j) with h | h
   · exact ⟨a, j, ha, hja, by rw [← he, h]⟩
   · exact ⟨b, j, hb, hjb, by rw [← he, h]⟩
 · exact ⟨i, r, hi, hr, he⟩
include ha hb in
theorem a4i : ∀ {js : List Nat} {M : Nat → Nat → Int}, (∀ j, j ∈ js → j < (l.getD a default).length ∧ j < (l.getD b default).length) → ∀ {z : Int}, inV l (eqMs M a b js) z → inV l M z
 | [], _, _, _, h => h
 | j :: js, M, hj, z, h => apv ha hb (hj j (by simp)).1 (hj j (by simp)).2 (a4i (js := js) (M := eqM M a b j) (fun k hk => hj k (by simp [hk])) h)
include ha hb in
theorem a2g : ∀ {js : List Nat} {M : Nat → Nat → Int}, (∀ j, j ∈ js → j < (l.getD a default).length ∧ j < (l.getD b default).length) → (∃ j, j ∈ js ∧ ¬ M a j = M b j) → ∃ z, inV l M z ∧ ¬ inV l (eqMs M a b js) z
 | [], _, _, ⟨_, h, _⟩ => by simp at h
 | j :: js, M, hj, ⟨k, hk, hne⟩ => by
  by_cases e : M a j = M b j
  · have e2 : eqMs M a b (j :: js) = eqMs M a b js := by
     show eqMs (eqM M a b j) a b js = _
     rw [yl e]
    rw [e2]
    refine a2g (fun k hk => hj k (by simp [hk])) ⟨k, ?_, hne⟩
    rcases List.mem_cons.1 hk with h | h
    · subst h; exact absurd e hne
    · exact h
  · refine ⟨hiI (M a j) (M b j), ?_, fun h => ?_⟩
    · rcases aj0 (M a j) (M b j) with h | h
      · exact ⟨a, j, ha, (hj j (by simp)).1, h.symm⟩
      · exact ⟨b, j, hb, (hj j (by simp)).2, h.symm⟩
    · obtain ⟨i, r, hi, hr, he⟩ := a4i ha hb (fun k hk => hj k (by simp [hk])) (show inV l (eqMs (eqM M a b j) a b js) _ from h)
      unfold eqM at he
      split at he
      · unfold hiI loI at he
        split at he <;> split at he <;> omega
      · rename_i h2
        exact h2 he
end
def a14 (Z : List Int) (l : List Rw) : Nat := Z.countP fun z => l.any fun r => decide (z ∈ r)
def muC (Z : List Int) (l : List Rw) : Nat := a14 Z l * 300 + (300 - l.length)
def Cov (Z : List Int) (l : List Rw) : Prop := ∀ r, r ∈ l → ∀ z, z ∈ r → z ∈ Z
theorem n9 {l : List Rw} {z : Int} : (l.any fun r => decide (z ∈ r)) = true ↔ ∃ r, r ∈ l ∧ z ∈ r := by
 rw [List.any_eq_true]
 exact ⟨fun ⟨r, h, h2⟩ => ⟨r, h, of_decide_eq_true h2⟩, fun ⟨r, h, h2⟩ => ⟨r, h, decide_eq_true h2⟩⟩
theorem countP_lt' {p q : Int → Bool} : ∀ {Z : List Int}, (∀ z, p z = true → q z = true) → (∃ z, z ∈ Z ∧ q z = true ∧ p z = false) → Z.countP p < Z.countP q
 | [], _, ⟨_, h, _⟩ => by simp at h
 | x :: Z, h, ⟨z, hz, hq, hp⟩ => by
  have hm : Z.countP p ≤ Z.countP q := List.countP_mono_left fun z _ => h z
  rw [List.countP_cons, List.countP_cons]
  rcases List.mem_cons.1 hz with rfl | hz
  · rw [hq, hp]
    simp only [if_true, Bool.false_eq_true, if_false]
    omega
  · have := countP_lt' (Z := Z) h ⟨z, hz, hq, hp⟩
    by_cases e : p x = true
    · rw [e, h x e]; omega
    · rw [if_neg e]; omega
theorem aji {Z : List Int} {l l' : List Rw} (h : ∀ z, (∃ r, r ∈ l' ∧ z ∈ r) → ∃ r, r ∈ l ∧ z ∈ r) (h2 : ∃ z, z ∈ Z ∧ (∃ r, r ∈ l ∧ z ∈ r) ∧ ¬ ∃ r, r ∈ l' ∧ z ∈ r) : a14 Z l' < a14 Z l := by
 refine countP_lt' (fun z hz => n9.2 (h z (n9.1 hz))) ?_
 obtain ⟨z, h3, h4, h5⟩ := h2
 exact ⟨z, h3, n9.2 h4, by rw [Bool.eq_false_iff]; exact fun e => h5 (n9.1 e)⟩
theorem alk {Z : List Int} {l l' : List Rw} (h : ∀ z, (∃ r, r ∈ l' ∧ z ∈ r) → ∃ r, r ∈ l ∧ z ∈ r) : a14 Z l' ≤ a14 Z l :=
 List.countP_mono_left fun z _ hz => n9.2 (h z (n9.1 hz))
end Go.Hx
end
