/- A part of the proof: X1 X2 Ch3 X3 X4 Ch4 X5. -/
import Derived.Test.YtidophngianjiaaGreatDoor5x22
set_option linter.all false
section
namespace Go.Hx
open Go.Proofs
set_option maxRecDepth 100000
set_option maxHeartbeats 1000000
theorem am9 : goodFn Tryz.prog 245 := ⟨Tryz.f245, Tryz.func245, by kernel_rfl, by kernel_rfl⟩
theorem ard (l : List Int) (g k : Nat) (caps : Nat → PV) (V : Int → Bool) (hg : goodFn Tryz.prog g) (hV : ∀ x, ai Tryz.prog g (pI x :: ep caps k 0) (al [pB (V x)])) : ai Tryz.prog 245 [pP (zl l), pP (.fn g k caps)] (al [pI (idx V l)]) := by
 refine aj (nt := 19) ah Tryz.func245 rfl rfl l9 ?_; refine a7 ?_
 refine en 0 rfl fun hn => ?_
 refine gy ?_; refine qy ?_; refine a6 ?_; refine ef (ι := Unit) ⟨[], []⟩ ⟨trivial, trivial⟩ (fun _i => ⟨[], []⟩) (fun _i => idx V l = -1) ?_ ?_
 ·
  refine sx7 ?_; (iterate 3 refine qy ?_); refine a6 ?_; refine ab ?_
  refine ao (ι := Nat) ⟨[(0, some _), (1, some _), (7, some _)], []⟩ ⟨⟨c9, c9, c9, trivial⟩, trivial⟩ (fun i => ⟨[(8, some (vI i))], []⟩) (fun i => i ≤ l.length ∧ (∀ j, j < i → V (l.getD j default) = false)) (fun i => l.length - i) (0) (⟨Nat.zero_le _, d3⟩) ⟨⟨zy, trivial⟩, trivial⟩ ?_
  rintro i ⟨hi, hI⟩
  refine sx7 ?_; refine qy ?_; refine a6 ?_; refine a7 ?_; refine a8 _ rfl (fun r0 => ?_) (fun r0 => ?_)
  ·
   have h0 := of_decide_eq_true r0
   try simp only [ty] at h0
   refine aa ?_; refine a7 ?_; refine ab ?_; refine sx7 ?_; (iterate 2 refine qy ?_); refine a6 ?_; refine sx7 ?_; (iterate 5 refine qy ?_)
   refine rc rfl rfl rfl rfl rfl rfl hg (hV (l.getD i default)) (CoL.refl _) rfl rfl ?_; refine a6 ?_; refine a8 _ rfl (fun r1 => ?_) (fun r1 => ?_)
   ·
    have h1 := r1
    refine sx7 ?_; (iterate 2 refine qy ?_); refine a6 ?_
    exact hx8 rfl rfl rfl (⟨cci (a3g (i := i) (by omega) hI h1).symm, trivial⟩)
   ·
    have h1 := r1
    refine aa ?_; refine gy ?_; (iterate 2 refine qy ?_); refine a6 ?_; refine ⟨i + 1, ?_, ?_, ?_⟩
    · exact ⟨by show i + 1 ≤ _; omega, c8 hI (h1)⟩
    · first | omega | (dsimp only; omega)
    · exact ⟨⟨zy, c9, c9, c9, trivial⟩, trivial⟩
  ·
   have h0 := of_decide_eq_false r0
   try simp only [ty] at h0
   refine ar ?_; refine ⟨(), ?_, ?_⟩
   · exact a3p fun j hj => hI j (by omega)
   · exact ⟨trivial, trivial⟩
 · rintro _ hj
   refine sx7 ?_; refine qy ?_; refine a6 ?_
   exact hx8 rfl rfl rfl (⟨cci hj.symm, trivial⟩)
theorem alp : goodFn Tryz.prog 184 := ⟨Tryz.f184, Tryz.func184, by kernel_rfl, by kernel_rfl⟩
theorem arh (l : List Rw) (g k : Nat) (caps : Nat → PV) (V : Rw → Bool) (hg : goodFn Tryz.prog g) (hV : ∀ x, ai Tryz.prog g (pZ x :: ep caps k 0) (al [pB (V x)])) : ai Tryz.prog 184 [pP (rl l), pP (.fn g k caps)] (al [pI (idx V l)]) := by
 refine aj (nt := 19) ah Tryz.func184 rfl rfl l9 ?_; refine a7 ?_
 refine en 0 rfl fun hn => ?_
 refine gy ?_; refine qy ?_; refine a6 ?_; refine ef (ι := Unit) ⟨[], []⟩ ⟨trivial, trivial⟩ (fun _i => ⟨[], []⟩) (fun _i => idx V l = -1) ?_ ?_
 ·
  refine sx7 ?_; (iterate 3 refine qy ?_); refine a6 ?_; refine ab ?_
  refine ao (ι := Nat) ⟨[(0, some _), (1, some _), (7, some _)], []⟩ ⟨⟨c9, c9, c9, trivial⟩, trivial⟩ (fun i => ⟨[(8, some (vI i))], []⟩) (fun i => i ≤ l.length ∧ (∀ j, j < i → V (l.getD j default) = false)) (fun i => l.length - i) (0) (⟨Nat.zero_le _, d3⟩) ⟨⟨zy, trivial⟩, trivial⟩ ?_
  rintro i ⟨hi, hI⟩
  refine sx7 ?_; refine qy ?_; refine a6 ?_; refine a7 ?_; refine a8 _ rfl (fun r0 => ?_) (fun r0 => ?_)
  ·
   have h0 := of_decide_eq_true r0
   try simp only [ty] at h0
   refine aa ?_; refine a7 ?_; refine ab ?_; refine sx7 ?_; (iterate 2 refine qy ?_); refine a6 ?_; refine sx7 ?_; (iterate 5 refine qy ?_)
   refine rc rfl rfl rfl rfl rfl rfl hg (hV (l.getD i default)) (CoL.refl _) rfl rfl ?_; refine a6 ?_; refine a8 _ rfl (fun r1 => ?_) (fun r1 => ?_)
   ·
    have h1 := r1
    refine sx7 ?_; (iterate 2 refine qy ?_); refine a6 ?_
    exact hx8 rfl rfl rfl (⟨cci (a3g (i := i) (by omega) hI h1).symm, trivial⟩)
   ·
    have h1 := r1
    refine aa ?_; refine gy ?_; (iterate 2 refine qy ?_); refine a6 ?_; refine ⟨i + 1, ?_, ?_, ?_⟩
    · exact ⟨by show i + 1 ≤ _; omega, c8 hI (h1)⟩
    · first | omega | (dsimp only; omega)
    · exact ⟨⟨zy, c9, c9, c9, trivial⟩, trivial⟩
  ·
   have h0 := of_decide_eq_false r0
   try simp only [ty] at h0
   refine ar ?_; refine ⟨(), ?_, ?_⟩
   · exact a3p fun j hj => hI j (by omega)
   · exact ⟨trivial, trivial⟩
 · rintro _ hj
   refine sx7 ?_; refine qy ?_; refine a6 ?_
   exact hx8 rfl rfl rfl (⟨cci hj.symm, trivial⟩)
theorem akt : goodFn Tryz.prog 232 := ⟨Tryz.f232, Tryz.func232, by kernel_rfl, by kernel_rfl⟩
theorem aqy (l : List Int) (g k : Nat) (caps : Nat → PV) (V : Int → Bool) (hg : goodFn Tryz.prog g) (hV : ∀ x, ai Tryz.prog g (pI x :: ep caps k 0) (al [pB (V x)])) : ai Tryz.prog 232 [pP (zl l), pP (.fn g k caps)] (al [pB (l.any V)]) := by
 refine aj (nt := 9) ah Tryz.func232 rfl rfl l9 ?_; refine sx7 ?_; refine qy ?_; refine a6 ?_; refine sx7 ?_; (iterate 2 refine qy ?_)
 refine rc rfl rfl rfl rfl rfl rfl am9 (ard l g k caps V hg hV) (CoL.refl _) rfl rfl ?_; (iterate 2 refine qy ?_); refine a6 ?_
 exact hx8 rfl rfl rfl (⟨ccb a0g, trivial⟩)
theorem ajw : goodFn Tryz.prog 150 := ⟨Tryz.f150, Tryz.func150, by kernel_rfl, by kernel_rfl⟩
theorem ark (l : List Rw) (g k : Nat) (caps : Nat → PV) (V : Rw → Bool) (hg : goodFn Tryz.prog g) (hV : ∀ x, ai Tryz.prog g (pZ x :: ep caps k 0) (al [pB (V x)])) : ai Tryz.prog 150 [pP (rl l), pP (.fn g k caps)] (al [pB (l.any V)]) := by
 refine aj (nt := 9) ah Tryz.func150 rfl rfl l9 ?_; refine sx7 ?_; refine qy ?_; refine a6 ?_; refine sx7 ?_; (iterate 2 refine qy ?_)
 refine rc rfl rfl rfl rfl rfl rfl alp (arh l g k caps V hg hV) (CoL.refl _) rfl rfl ?_; (iterate 2 refine qy ?_); refine a6 ?_
 exact hx8 rfl rfl rfl (⟨ccb a0g, trivial⟩)
theorem a1b : goodFn Tryz.prog 152 := ⟨Tryz.f152, Tryz.func152, by kernel_rfl, by kernel_rfl⟩
theorem agx (a b : Rw) : ai Tryz.prog 152 [pZ a, pZ b] (al [pB (decide (a = b))]) := by
 refine aj (nt := 26) ah Tryz.func152 rfl rfl l9 ?_; refine a7 ?_
 refine en 0 rfl fun hn0 => ?_
 refine en 1 rfl fun hn1 => ?_
 refine gy ?_; refine qy ?_; refine a6 ?_; refine a7 ?_; refine sx7 ?_; (iterate 5 refine qy ?_); refine a6 ?_; refine a8 _ rfl (fun r0 => ?_) (fun r0 => ?_)
 ·
  have h0 := r0
  have h0 := of_decide_eq_false (b8 h0)
  try simp only [ty] at h0
  refine sx7 ?_; refine qy ?_; refine a6 ?_
  exact hx8 rfl rfl rfl (⟨ccb (decide_eq_false fun e => by subst e; omega).symm, trivial⟩)
 ·
  have h0 := r0
  have h0 := of_decide_eq_true (b7 h0)
  try simp only [ty] at h0
  refine aa ?_; refine ef (ι := Unit) ⟨[], []⟩ ⟨trivial, trivial⟩ (fun _i => ⟨[], []⟩) (fun _i => a = b) ?_ ?_
  ·
   refine sx7 ?_; (iterate 3 refine qy ?_); refine a6 ?_; refine ab ?_
   refine ao (ι := Nat) ⟨[(0, some _), (1, some _), (12, some _)], []⟩ ⟨⟨c9, c9, c9, trivial⟩, trivial⟩ (fun i => ⟨[(13, some (vI i))], []⟩) (fun i => i ≤ a.length ∧ (∀ j, j < i → decide (a.getD j default = b.getD j default) = true)) (fun i => a.length - i) (0) (⟨Nat.zero_le _, d3⟩) ⟨⟨zy, trivial⟩, trivial⟩ ?_
   rintro i ⟨hi, hI⟩
   refine sx7 ?_; refine qy ?_; refine a6 ?_; refine a7 ?_; refine a8 _ rfl (fun r1 => ?_) (fun r1 => ?_)
   ·
    have h1 := of_decide_eq_true r1
    try simp only [ty] at h1
    refine aa ?_; refine a7 ?_; refine ab ?_; refine sx7 ?_; (iterate 2 refine qy ?_); refine a6 ?_; refine a7 ?_; refine br (E := c6) ah bh [0, 1, 2, 3, 4, 5, 6, 7, 8] ?_
    (iterate 9 refine qy ?_); refine a6 ?_; refine ⟨by kernel_rfl, ?_⟩; refine a8 _ rfl (fun r2 => ?_) (fun r2 => ?_)
    ·
     have h2 := r2
     have h2 := of_decide_eq_false (b8 h2)
     try simp only [ty] at h2
     refine sx7 ?_; refine qy ?_; refine a6 ?_
     exact hx8 rfl rfl rfl (⟨ccb (decide_eq_false fun e => by subst e; simp_all).symm, trivial⟩)
    ·
     have h2 := r2
     have h2 := of_decide_eq_true (b7 h2)
     try simp only [ty] at h2
     refine aa ?_; refine gy ?_; (iterate 2 refine qy ?_); refine a6 ?_; refine ⟨i + 1, ?_, ?_, ?_⟩
     · exact ⟨by show i + 1 ≤ _; omega, c8 hI (decide_eq_true (by simp_all))⟩
     · first | omega | (dsimp only; omega)
     · exact ⟨⟨zy, c9, c9, c9, trivial⟩, trivial⟩
   ·
    have h1 := of_decide_eq_false r1
    try simp only [ty] at h1
    refine ar ?_; refine ⟨(), ?_, ?_⟩
    · exact aqf (by omega) fun j hj => hI j (by omega)
    · exact ⟨trivial, trivial⟩
  · rintro _ hj
    refine sx7 ?_; refine qy ?_; refine a6 ?_
    exact hx8 rfl rfl rfl (⟨ccb (decide_eq_true hj).symm, trivial⟩)
theorem aj7 : goodFn Tryz.prog 212 := ⟨Tryz.f212, Tryz.func212, by kernel_rfl, by kernel_rfl⟩
theorem aic (a b : Rw) : ai Tryz.prog 212 [pZ a, pZ b] (al [pI (jh a b)]) := by
 refine aj (nt := 36) ah Tryz.func212 rfl rfl l9 ?_; refine a7 ?_
 refine en 0 rfl fun hn0 => ?_
 refine en 1 rfl fun hn1 => ?_
 refine gy ?_; refine qy ?_; refine a6 ?_
 refine ef (ι := Unit) ⟨[(0, some _), (1, some _)], []⟩ ⟨⟨c9, c9, trivial⟩, trivial⟩ (fun _i => ⟨[], []⟩) (fun _i => ∀ j, j < a.length → j < b.length ∧ a.getD j default = b.getD j default) ?_ ?_
 ·
  refine sx7 ?_; (iterate 3 refine qy ?_); refine a6 ?_; refine ab ?_
  refine ao (ι := Nat) ⟨[(0, some _), (1, some _), (9, some _), (10, some _)], []⟩ ⟨⟨c9, c9, c9, c9, trivial⟩, trivial⟩ (fun i => ⟨[(11, some (vI i))], []⟩) (fun i => i ≤ a.length ∧ (∀ j, j < i → j < b.length ∧ a.getD j default = b.getD j default)) (fun i => a.length - i) (0) (⟨Nat.zero_le _, d3⟩) ⟨⟨zy, trivial⟩, trivial⟩ ?_
  rintro i ⟨hi, hI⟩
  refine sx7 ?_; refine qy ?_; refine a6 ?_; refine a7 ?_; refine a8 _ rfl (fun r0 => ?_) (fun r0 => ?_)
  ·
   have h0 := of_decide_eq_true r0
   try simp only [ty] at h0
   refine aa ?_; refine a7 ?_; refine ab ?_; refine sx7 ?_; (iterate 5 refine qy ?_); refine a6 ?_; refine a7 ?_; refine sx7 ?_; (iterate 4 refine qy ?_); refine a6 ?_
   refine a8 _ rfl (fun r1 => ?_) (fun r1 => ?_)
   ·
    have h1 := of_decide_eq_true r1
    try simp only [ty] at h1
    refine sx7 ?_; refine qy ?_; refine a6 ?_
    exact hx8 rfl rfl rfl (⟨cci (al4 (i := i) (by omega) (by omega) fun j hj => (hI j hj).2), trivial⟩)
   ·
    have h1 := of_decide_eq_false r1
    try simp only [ty] at h1
    refine aa ?_; refine sx7 ?_; (iterate 5 refine qy ?_); refine a6 ?_; refine sx7 ?_; (iterate 2 refine qy ?_)
    refine rc rfl rfl rfl rfl rfl rfl a96 (air (a.getD i default) (b.getD i default)) (CoL.refl _) rfl rfl ?_; refine qy ?_; refine a6 ?_; refine sx7 ?_; (iterate 2 refine qy ?_); refine a6 ?_
    refine a8 _ rfl (fun r2 => ?_) (fun r2 => ?_)
    ·
     have h2 := r2
     have h2 := of_decide_eq_false (b8 h2)
     try simp only [ty] at h2
     refine sx7 ?_; (iterate 2 refine qy ?_); refine a6 ?_
     exact hx8 rfl rfl rfl (⟨cci (aj8 (i := i) (by omega) (by omega) (fun j hj => (hI j hj).2) (by assumption)), trivial⟩)
    ·
     have h2 := r2
     have h2 := of_decide_eq_true (b7 h2)
     try simp only [ty] at h2
     refine aa ?_; refine gy ?_; (iterate 2 refine qy ?_); refine a6 ?_; refine ⟨i + 1, ?_, ?_, ?_⟩
     · exact ⟨by show i + 1 ≤ _; omega, c8 hI (⟨by omega, amg (by assumption)⟩)⟩
     · first | omega | (dsimp only; omega)
     · exact ⟨⟨zy, c9, c9, c9, c9, trivial⟩, trivial⟩
  ·
   have h0 := of_decide_eq_false r0
   try simp only [ty] at h0
   refine ar ?_; refine ⟨(), ?_, ?_⟩
   · exact fun j hj => hI j (by omega)
   · exact ⟨⟨c9, c9, trivial⟩, trivial⟩
 · rintro _ hj
   refine a7 ?_; refine sx7 ?_; (iterate 5 refine qy ?_); refine a6 ?_; refine a8 _ rfl (fun r3 => ?_) (fun r3 => ?_)
   ·
    have h3 := of_decide_eq_true r3
    try simp only [ty] at h3
    refine sx7 ?_; refine qy ?_; refine a6 ?_
    exact hx8 rfl rfl rfl (⟨cci (am2 (by omega) fun j h => (hj j h).2), trivial⟩)
   ·
    have h3 := of_decide_eq_false r3
    try simp only [ty] at h3
    refine aa ?_; refine sx7 ?_; refine qy ?_; refine a6 ?_
    exact hx8 rfl rfl rfl (⟨cci (am4 (an2 fun j h => (hj j h).1) (by omega) fun j h => (hj j h).2), trivial⟩)
end Go.Hx
end
section
namespace Go.Hx
open Go.Proofs
set_option maxRecDepth 100000
abbrev bxZ (a : PV) : PV := .vp 1 fun j => [a].getD j .any
theorem ak5 : goodFn Tryz.prog 151 := ⟨Tryz.f151, Tryz.func151, by kernel_rfl, by kernel_rfl⟩
theorem anq (r row : Rw) : ai Tryz.prog 151 [pZ r, pP (bxZ (zl row))] (al [pB (decide (r = row))]) := by
 refine aj (nt := 7) ah Tryz.func151 rfl rfl l9 ?_; refine sx7 ?_; refine qy ?_; refine a6 ?_; refine sx7 ?_; (iterate 2 refine qy ?_); refine rc rfl rfl rfl rfl rfl rfl a1b (agx _ _) (CoL.refl _) rfl rfl ?_
 refine qy ?_; refine a6 ?_
 exact hx8 rfl rfl rfl (CoL.refl _)
theorem abx : goodFn Tryz.prog 99 := ⟨Tryz.f99, Tryz.func99, by kernel_rfl, by kernel_rfl⟩
theorem aig (n : Int) (l : List Rw) (row : Rw) : ai Tryz.prog 99 [pT n l, pZ row] (al [pB (l.any fun r => decide (r = row))]) := by
 refine aj (nt := 9) ah Tryz.func99 rfl rfl l9 ?_; refine sx7 ?_; refine m9 0 ?_; refine m9 1 ?_; refine qy ?_; refine a6 ?_; refine a7 ?_; refine ia 3 rfl rfl rfl ?_; refine gy ?_
 (iterate 3 refine qy ?_); refine rc rfl rfl rfl rfl rfl rfl ajw (ark l 151 1 (fun i => [bxZ (zl row)].getD i .any) (fun r => decide (r = row)) ak5 (fun r => anq r row)) (CoL.refl _) rfl rfl ?_; refine qy ?_
 refine a6 ?_
 exact hx8 rfl rfl rfl (CoL.refl _)
theorem alm : goodFn Tryz.prog 233 := ⟨Tryz.f233, Tryz.func233, by kernel_rfl, by kernel_rfl⟩
theorem arm (x : Int) : ai Tryz.prog 233 [pI x] (al [pB (decide (x < 0))]) := by
 refine aj (nt := 5) ah Tryz.func233 rfl rfl l9 ?_; refine sx7 ?_; refine qy ?_; refine a6 ?_; refine sx7 ?_; (iterate 3 refine qy ?_); refine a6 ?_
 exact hx8 rfl rfl rfl (CoL.refl _)
theorem s6 : goodFn Tryz.prog 216 := ⟨Tryz.f216, Tryz.func216, by kernel_rfl, by kernel_rfl⟩
theorem ux (a b : Rw) (s : AS) (h : b.length = a.length) (h16 : a.length ≤ 16) : ai Tryz.prog 216 [pZ a, pZ b, pA s] (al [pB (gw a b s)]) := by
 refine aj (nt := 30) ah Tryz.func216 rfl rfl l9 ?_; refine a7 ?_
 refine en 0 rfl fun hn0 => ?_
 refine en 1 rfl fun hn1 => ?_
 refine gy ?_; refine qy ?_; refine a6 ?_; refine ef (ι := Unit) ⟨[], []⟩ ⟨trivial, trivial⟩ (fun _i => ⟨[], []⟩) (fun _i => gw a b s = true) ?_ ?_
 ·
  refine sx7 ?_; (iterate 3 refine qy ?_); refine a6 ?_; refine ab ?_
  refine ao (ι := Nat) ⟨[(0, some _), (1, some _), (2, some _), (9, some _)], []⟩ ⟨⟨c9, c9, c9, c9, trivial⟩, trivial⟩ (fun i => ⟨[(10, some (vI i))], []⟩) (fun i => i ≤ a.length ∧ (∀ j : Nat, j < i → (dm s (j : Int) = true → a.getD j default = b.getD j default))) (fun i => a.length - i) (0) (⟨Nat.zero_le _, d3⟩) ⟨⟨zy, trivial⟩, trivial⟩ ?_
  rintro i ⟨hi, hI⟩
  refine sx7 ?_; refine qy ?_; refine a6 ?_; refine a7 ?_; refine a8 _ rfl (fun r0 => ?_) (fun r0 => ?_)
  ·
   have h0 := of_decide_eq_true r0
   try simp only [ty] at h0
   refine aa ?_; refine a7 ?_; refine ab ?_; refine sx7 ?_; (iterate 2 refine qy ?_); refine a6 ?_; refine a7 ?_
   refine br (E := c6) ah bh [0, 1, 2, 3, 4, 5, 6, 7, 8, 9, 10, 11, 12, 13, 14, 15] ?_; (iterate 6 refine qy ?_); refine ca rfl rfl (fun r1 => ?_) (fun r1 => ?_)
   ·
    have h1 := of_decide_eq_true r1
    try simp only [ty] at h1
    (iterate 9 refine qy ?_ (hg := (gtt r1))); refine qy ?_; refine a6 ?_; refine ⟨by kernel_rfl, ?_⟩; refine a8 _ rfl (fun r2 => ?_) (fun r2 => ?_)
    ·
     have h2 := r2
     have h2 := im r1 h2
     have h2 := of_decide_eq_false (b8 h2)
     try simp only [ty] at h2
     refine sx7 ?_; refine qy ?_; refine a6 ?_
     exact hx8 rfl rfl rfl (⟨ccb (ank (i := i) (by omega) ((kp (by omega)).1 (by assumption)) (by assumption)).symm, trivial⟩)
    ·
     have h2 := r2
     have h2 := im r1 h2
     have h2 := of_decide_eq_true (b7 h2)
     try simp only [ty] at h2
     refine aa ?_; refine gy ?_; (iterate 2 refine qy ?_); refine a6 ?_; refine ⟨i + 1, ?_, ?_, ?_⟩
     · exact ⟨by show i + 1 ≤ _; omega, c8 hI (fun hh => by first | (exact absurd ((kp (by omega)).2 hh) (by assumption)) | assumption)⟩
     · first | omega | (dsimp only; omega)
     · exact ⟨⟨zy, c9, c9, c9, c9, trivial⟩, trivial⟩
   ·
    have h1 := of_decide_eq_false r1
    try simp only [ty] at h1
    (iterate 9 refine k9 (gft r1) ?_); refine rq rfl rfl rfl rfl rfl ?_ (hp := r1); refine a6 ?_; refine ⟨by kernel_rfl, ?_⟩; refine a8 _ rfl (fun e => by cases e) (fun _ => ?_); refine aa ?_; refine gy ?_
    (iterate 2 refine qy ?_); refine a6 ?_; refine ⟨i + 1, ?_, ?_, ?_⟩
    · exact ⟨by show i + 1 ≤ _; omega, c8 hI (fun hh => by first | (exact absurd ((kp (by omega)).2 hh) (by assumption)) | assumption)⟩
    · first | omega | (dsimp only; omega)
    · exact ⟨⟨zy, c9, c9, c9, c9, trivial⟩, trivial⟩
  ·
   have h0 := of_decide_eq_false r0
   try simp only [ty] at h0
   refine ar ?_; refine ⟨(), ?_, ?_⟩
   · exact abt fun j hj => hI j (by omega)
   · exact ⟨trivial, trivial⟩
 · rintro _ hj
   refine sx7 ?_; refine qy ?_; refine a6 ?_
   exact hx8 rfl rfl rfl (⟨ccb hj.symm, trivial⟩)
end Go.Hx
end
section
namespace Go.Hx
def cj (n : Int) (l m : List Fd) : Int := if cb n l = 0 then (if 64 < m.length then 3 else if m.all (inU n) = true then 0 else 1) else cb n l
section
variable {n : Int} {l m : List Fd}
theorem ad5 (h : ¬ cb n l = 0) : cb n l = cj n l m := by unfold cj; rw [if_neg h]
theorem abu (h : cb n l = 0) (h2 : 64 < m.length) : 3 = cj n l m := by unfold cj; rw [if_pos h, if_pos h2]
theorem a44 {i : Nat} (h : cb n l = 0) (h2 : ¬ 64 < m.length) (hi : i < m.length) (hu : ¬ inU n (m.getD i default) = true) : 1 = cj n l m := by
 unfold cj
 rw [if_pos h, if_neg h2, if_neg (fun e => absurd (zq (l := m) (p := inU n) hi (Bool.eq_false_iff.2 hu)) (by rw [e]; decide))]
theorem aeq (h : cb n l = 0) (h2 : ¬ 64 < m.length) (hu : ∀ j, j < m.length → inU n (m.getD j default) = true) : 0 = cj n l m := by
 unfold cj
 rw [if_pos h, if_neg h2, if_pos (a3k hu)]
theorem ng (h : cj n l m = 0) : 0 ≤ n ∧ n ≤ 16 ∧ l.length ≤ 64 ∧ l.all (inU n) = true ∧ m.length ≤ 64 ∧ m.all (inU n) = true := by
 unfold cj at h
 by_cases h1 : cb n l = 0
 · rw [if_pos h1] at h
   obtain ⟨a, b, c, d⟩ := a26 h1
   by_cases h2 : 64 < m.length
   · rw [if_pos h2] at h; omega
   · rw [if_neg h2] at h
     by_cases h3 : m.all (inU n) = true
     · exact ⟨a, b, c, d, by omega, h3⟩
     · rw [if_neg h3] at h; omega
 · rw [if_neg h1] at h; exact absurd h h1
end
theorem a4u {n : Int} {l : List Rw} {i : Nat} (h1 : ((l.getD i default).length : Int) = n) (h2 : (l.getD i default).any (fun x => decide (x < 0)) = false) (h3 : i = 0 ∨ ltZ (l.getD (i - 1) default) (l.getD i default) = true) : j1 n l i = true := by
 unfold j1
 rw [decide_eq_true h1, h2]
 rcases h3 with h3 | h3
 · rw [decide_eq_true h3]; rfl
 · rw [h3]; simp
theorem a7v {n : Int} {l : List Rw} {i : Nat} (h : ¬ ((l.getD i default).length : Int) = n) : j1 n l i = false := by unfold j1; rw [decide_eq_false h]; rfl
theorem a8n {n : Int} {l : List Rw} {i : Nat} (h : (l.getD i default).any (fun x => decide (x < 0)) = true) : j1 n l i = false := by unfold j1; rw [h]; simp
theorem a1n {n : Int} {l : List Rw} {i : Nat} (h0 : 0 < i) (h : ¬ ltZ (l.getD (i - 1) default) (l.getD i default) = true) : j1 n l i = false := by
 unfold j1
 rw [Bool.eq_false_iff.2 h, decide_eq_false (by omega : ¬ i = 0)]
 simp
theorem tc {a b : Rw} : jh a b < 0 ↔ ltZ a b = true := by
 unfold jh
 by_cases e : a = b
 · subst e
   rw [if_pos rfl, lb]
   exact ⟨fun h => absurd h (by omega), fun h => by cases h⟩
 · rw [if_neg e]
   by_cases h : ltZ a b = true
   · rw [if_pos h]; exact ⟨fun _ => h, fun _ => by omega⟩
   · rw [if_neg h]; exact ⟨fun h => absurd h (by omega), fun h2 => absurd h2 h⟩
end Go.Hx
end
section
namespace Go.Hx
open Go.Proofs
set_option maxRecDepth 100000
theorem w4 : goodFn Tryz.prog 105 := ⟨Tryz.f105, Tryz.func105, by kernel_rfl, by kernel_rfl⟩
theorem vw (n : Int) (s : AS) : ai Tryz.prog 105 [pI n, pA s] (al [pB (decide (sub s (ay n)))]) := by
 refine aj (nt := 9) ah Tryz.func105 rfl rfl l9 ?_; refine sx7 ?_; refine qy ?_; refine a6 ?_; refine sx7 ?_; (iterate 2 refine qy ?_); refine rc rfl rfl rfl rfl rfl rfl a40 (a6r n) (CoL.refl _) rfl rfl ?_
 refine rc rfl rfl rfl rfl rfl rfl a6m (aaf _ _) (CoL.refl _) rfl rfl ?_; refine qy ?_; refine a6 ?_
 exact hx8 rfl rfl rfl (CoL.refl _)
theorem zw : goodFn Tryz.prog 91 := ⟨Tryz.f91, Tryz.func91, by kernel_rfl, by kernel_rfl⟩
theorem w6 (n : Int) (l m : List Fd) : ai Tryz.prog 91 [pI n, pP (fdl l), pP (fdl m)] (al [pI (cj n l m)]) := by
 refine aj (nt := 34) ah Tryz.func91 rfl rfl l9 ?_; refine a7 ?_
 refine en 2 rfl fun hn2 => ?_
 refine gy ?_; refine qy ?_; refine a6 ?_; refine a7 ?_; refine sx7 ?_; (iterate 2 refine qy ?_); refine rc rfl rfl rfl rfl rfl rfl ao0 (aow n l) (CoL.refl _) rfl rfl ?_; refine qy ?_; refine a6 ?_; refine sx7 ?_
 (iterate 2 refine qy ?_); refine a6 ?_; refine a8 _ rfl (fun r0 => ?_) (fun r0 => ?_)
 ·
  have h0 := r0
  have h0 := of_decide_eq_false (b8 h0)
  try simp only [ty] at h0
  refine sx7 ?_; (iterate 2 refine qy ?_); refine a6 ?_
  exact hx8 rfl rfl rfl (⟨cci (ad5 (by assumption)), trivial⟩)
 ·
  have h0 := r0
  have h0 := of_decide_eq_true (b7 h0)
  try simp only [ty] at h0
  have hv0 : cb n l = 0 := by assumption
  obtain ⟨hn0, hn16, _, _⟩ := a26 hv0
  refine aa ?_; refine a7 ?_; refine sx7 ?_; (iterate 3 refine qy ?_); refine a6 ?_; refine a8 _ rfl (fun r1 => ?_) (fun r1 => ?_)
  ·
   have h1 := of_decide_eq_true r1
   try simp only [ty] at h1
   refine sx7 ?_; refine qy ?_; refine a6 ?_
   exact hx8 rfl rfl rfl (⟨cci (abu hv0 (by omega)), trivial⟩)
  ·
   have h1 := of_decide_eq_false r1
   try simp only [ty] at h1
   refine aa ?_; refine ef (ι := Unit) ⟨[], []⟩ ⟨trivial, trivial⟩ (fun _i => ⟨[], []⟩) (fun _i => ∀ j, j < m.length → inU n (m.getD j default) = true) ?_ ?_
   ·
    refine sx7 ?_; (iterate 3 refine qy ?_); refine a6 ?_; refine ab ?_
    refine ao (ι := Nat) ⟨[(0, some _), (19, some _), (20, some _)], []⟩ ⟨⟨c9, c9, c9, trivial⟩, trivial⟩ (fun i => ⟨[(21, some (vI i))], []⟩) (fun i => i ≤ m.length ∧ (∀ j, j < i → inU n (m.getD j default) = true)) (fun i => m.length - i) (0) (⟨Nat.zero_le _, d3⟩) ⟨⟨zy, trivial⟩, trivial⟩ ?_
    rintro i ⟨hi, hI⟩
    refine sx7 ?_; refine qy ?_; refine a6 ?_; refine a7 ?_; refine a8 _ rfl (fun r2 => ?_) (fun r2 => ?_)
    ·
     have h2 := of_decide_eq_true r2
     try simp only [ty] at h2
     refine aa ?_; refine a7 ?_; refine ab ?_; refine sx7 ?_; (iterate 2 refine qy ?_); refine m9 0 ?_; refine s9 ?_; refine a6 ?_; refine sx7 ?_; (iterate 8 refine qy ?_); refine a6 ?_
     refine a8 _ rfl (fun r3 => ?_) (fun r3 => ?_)
     ·
      have h3 := r3
      have h3 := of_decide_eq_false (b8 h3)
      try simp only [ty] at h3
      refine sx7 ?_; refine qy ?_; refine a6 ?_
      exact hx8 rfl rfl rfl (⟨cci (a44 (i := i) hv0 (by omega) (by omega) (fun e => absurd (w7.2 e) (by assumption))), trivial⟩)
     ·
      have h3 := r3
      have h3 := of_decide_eq_true (b7 h3)
      try simp only [ty] at h3
      refine aa ?_; refine gy ?_; (iterate 2 refine qy ?_); refine a6 ?_; refine ⟨i + 1, ?_, ?_, ?_⟩
      · exact ⟨by show i + 1 ≤ _; omega, c8 hI (w7.1 (by assumption))⟩
      · first | omega | (dsimp only; omega)
      · exact ⟨⟨zy, c9, c9, c9, trivial⟩, trivial⟩
    ·
     have h2 := of_decide_eq_false r2
     try simp only [ty] at h2
     refine ar ?_; refine ⟨(), ?_, ?_⟩
     · exact fun j hj => hI j (by omega)
     · exact ⟨trivial, trivial⟩
   · rintro _ hj
     refine sx7 ?_; refine qy ?_; refine a6 ?_
     exact hx8 rfl rfl rfl (⟨cci (aeq hv0 (by omega) hj), trivial⟩)
theorem ale : goodFn Tryz.prog 104 := ⟨Tryz.f104, Tryz.func104, by kernel_rfl, by kernel_rfl⟩
theorem agw (n : Int) (l m : List Fd) : ai Tryz.prog 104 [pI n, pP (fdl l), pP (fdl m)] (al [pI (cj n l m)]) := by
 refine aj (nt := 42) ah Tryz.func104 rfl rfl l9 ?_; refine a7 ?_
 refine en 2 rfl fun hn2 => ?_
 refine gy ?_; refine qy ?_; refine a6 ?_; refine a7 ?_; refine sx7 ?_; (iterate 2 refine qy ?_); refine rc rfl rfl rfl rfl rfl rfl amj (aly n l) (CoL.refl _) rfl rfl ?_; refine qy ?_; refine a6 ?_; refine sx7 ?_
 (iterate 2 refine qy ?_); refine a6 ?_; refine a8 _ rfl (fun r0 => ?_) (fun r0 => ?_)
 ·
  have h0 := r0
  have h0 := of_decide_eq_false (b8 h0)
  try simp only [ty] at h0
  refine sx7 ?_; (iterate 2 refine qy ?_); refine a6 ?_
  exact hx8 rfl rfl rfl (⟨cci (ad5 (by assumption)), trivial⟩)
 ·
  have h0 := r0
  have h0 := of_decide_eq_true (b7 h0)
  try simp only [ty] at h0
  have hv0 : cb n l = 0 := by assumption
  obtain ⟨hn0, hn16, _, _⟩ := a26 hv0
  refine aa ?_; refine a7 ?_; refine sx7 ?_; (iterate 3 refine qy ?_); refine a6 ?_; refine a8 _ rfl (fun r1 => ?_) (fun r1 => ?_)
  ·
   have h1 := of_decide_eq_true r1
   try simp only [ty] at h1
   refine sx7 ?_; refine qy ?_; refine a6 ?_
   exact hx8 rfl rfl rfl (⟨cci (abu hv0 (by omega)), trivial⟩)
  ·
   have h1 := of_decide_eq_false r1
   try simp only [ty] at h1
   refine aa ?_; refine ef (ι := Unit) ⟨[], []⟩ ⟨trivial, trivial⟩ (fun _i => ⟨[], []⟩) (fun _i => ∀ j, j < m.length → inU n (m.getD j default) = true) ?_ ?_
   ·
    refine sx7 ?_; refine qy ?_; refine a6 ?_; refine ab ?_
    refine ao (ι := Nat) ⟨[(0, some _), (2, some _)], []⟩ ⟨⟨c9, c9, trivial⟩, trivial⟩ (fun i => ⟨[(8, some (vI i))], []⟩) (fun i => i ≤ m.length ∧ (∀ j, j < i → inU n (m.getD j default) = true)) (fun i => m.length - i) (0) (⟨Nat.zero_le _, d3⟩) ⟨⟨zy, trivial⟩, trivial⟩ ?_
    rintro i ⟨hi, hI⟩
    refine a7 ?_; refine sx7 ?_; (iterate 4 refine qy ?_); refine a6 ?_; refine a8 _ rfl (fun r2 => ?_) (fun r2 => ?_)
    ·
     have h2 := of_decide_eq_true r2
     try simp only [ty] at h2
     refine aa ?_; refine a7 ?_; refine ab ?_; refine sx7 ?_; (iterate 6 refine qy ?_); refine rc rfl rfl rfl rfl rfl rfl w4 (vw n _) (CoL.refl _) rfl rfl ?_; (iterate 2 refine qy ?_)
     refine ca rfl rfl (fun r3 => ?_) (fun r3 => ?_)
     ·
      have h3 := r3
      have h3 := b8 h3
      (iterate 8 refine k9 (gtf r3) ?_); refine rq rfl rfl rfl rfl rfl ?_ (hp := r3); refine a6 ?_; refine a8 _ rfl (fun _ => ?_) (fun e => by cases e); refine sx7 ?_; refine qy ?_; refine a6 ?_
      exact hx8 rfl rfl rfl (⟨cci (a44 (i := i) hv0 (by omega) (by omega) (fun e => by rw [ld (by omega) (by omega)] at e; simp_all)), trivial⟩)
     ·
      have h3 := r3
      have h3 := b7 h3
      (iterate 6 refine qy ?_ (hg := (gff r3))); refine rc rfl rfl rfl rfl rfl rfl w4 (vw n _) (CoL.refl _) rfl (gff r3) ?_; refine qy ?_ (hg := (gff r3)); refine qy ?_; refine a6 ?_
      refine a8 _ rfl (fun r4 => ?_) (fun r4 => ?_)
      ·
       have h4 := r4
       have h4 := cu r3 h4
       have h4 := b8 h4
       refine sx7 ?_; refine qy ?_; refine a6 ?_
       exact hx8 rfl rfl rfl (⟨cci (a44 (i := i) hv0 (by omega) (by omega) (fun e => by rw [ld (by omega) (by omega)] at e; simp_all)), trivial⟩)
      ·
       have h4 := r4
       have h4 := cu r3 h4
       have h4 := b7 h4
       refine aa ?_; refine gy ?_; (iterate 3 refine qy ?_); refine a6 ?_; refine ⟨i + 1, ?_, ?_, ?_⟩
       · exact ⟨by show i + 1 ≤ _; omega, c8 hI ((ld (by omega) (by omega)).2 (by simp_all))⟩
       · first | omega | (dsimp only; omega)
       · exact ⟨⟨zy, c9, c9, trivial⟩, trivial⟩
    ·
     have h2 := of_decide_eq_false r2
     try simp only [ty] at h2
     refine ar ?_; refine ⟨(), ?_, ?_⟩
     · exact fun j hj => hI j (by omega)
     · exact ⟨trivial, trivial⟩
   · rintro _ hj
     refine sx7 ?_; refine qy ?_; refine a6 ?_
     exact hx8 rfl rfl rfl (⟨cci (aeq hv0 (by omega) hj), trivial⟩)
end Go.Hx
end
section
namespace Go.Hx
open Go.Proofs
set_option maxRecDepth 100000
set_option maxHeartbeats 1000000
theorem ui (i : Nat) : ((i : Int) - 1).toNat = i - 1 := by omega
theorem al7 : goodFn Tryz.prog 214 := ⟨Tryz.f214, Tryz.func214, by kernel_rfl, by kernel_rfl⟩
theorem ajp (n : Int) (l : List Rw) : ai Tryz.prog 214 [pT n l] (al [pB (tok n l)]) := by
 refine aj (nt := 50) ah Tryz.func214 rfl rfl l9 ?_; refine sx7 ?_; refine m9 0 ?_; refine qy ?_; refine a6 ?_; refine a7 ?_; refine sx7 ?_; (iterate 4 refine qy ?_)
 refine ca rfl rfl (fun r0 => ?_) (fun r0 => ?_)
 ·
  have h0 := of_decide_eq_true r0
  try simp only [ty] at h0
  (iterate 3 refine k9 (gtf r0) ?_); refine rq rfl rfl rfl rfl rfl ?_ (hp := r0); refine qy ?_; (iterate 4 refine k9 rfl ?_); refine qy ?_; refine a6 ?_; refine a8 _ rfl (fun _ => ?_) (fun e => by cases e); refine sx7 ?_
  refine qy ?_; refine a6 ?_
  exact hx8 rfl rfl rfl (⟨ccb (a4s (by omega)).symm, trivial⟩)
 ·
  have h0 := of_decide_eq_false r0
  try simp only [ty] at h0
  (iterate 3 refine qy ?_ (hg := (gff r0))); (iterate 2 refine qy ?_); refine ca rfl rfl (fun r1 => ?_) (fun r1 => ?_)
  ·
   have h1 := r1
   have h1 := cu r0 h1
   have h1 := of_decide_eq_true h1
   try simp only [ty] at h1
   (iterate 4 refine k9 (gtf r1) ?_); refine rq rfl rfl rfl rfl rfl ?_ (hp := r1); refine a6 ?_; refine a8 _ rfl (fun _ => ?_) (fun e => by cases e); refine sx7 ?_; refine qy ?_; refine a6 ?_
   exact hx8 rfl rfl rfl (⟨ccb (a4s (by omega)).symm, trivial⟩)
  ·
   have h1 := r1
   have h1 := cu r0 h1
   have h1 := of_decide_eq_false h1
   try simp only [ty] at h1
   (iterate 4 refine qy ?_ (hg := (gff r1))); refine qy ?_; refine a6 ?_; refine a8 _ rfl (fun r2 => ?_) (fun r2 => ?_)
   ·
    have h2 := r2
    have h2 := cu r1 h2
    have h2 := of_decide_eq_true h2
    try simp only [ty] at h2
    refine sx7 ?_; refine qy ?_; refine a6 ?_
    exact hx8 rfl rfl rfl (⟨ccb (a4s (by omega)).symm, trivial⟩)
   ·
    have h2 := r2
    have h2 := cu r1 h2
    have h2 := of_decide_eq_false h2
    try simp only [ty] at h2
    refine aa ?_; refine a7 ?_; refine sx7 ?_; (iterate 4 refine qy ?_); refine a6 ?_; refine ab ?_
    refine ao (ι := Nat) ⟨[(1, some _), (20, some _), (21, some _)], [(0, some _)]⟩ ⟨⟨c9, c9, c9, trivial⟩, ⟨u9, trivial⟩⟩ (fun i => ⟨[(22, some (vI i))], []⟩) (fun i => i ≤ l.length ∧ (∀ j, j < i → j1 n l j = true)) (fun i => l.length - i) (0) (⟨Nat.zero_le _, d3⟩) ⟨⟨zy, trivial⟩, trivial⟩ ?_
    rintro i ⟨hi, hI⟩
    refine sx7 ?_; refine qy ?_; refine a6 ?_; refine a7 ?_; refine a8 _ rfl (fun r3 => ?_) (fun r3 => ?_)
    ·
     have h3 := of_decide_eq_true r3
     try simp only [ty] at h3
     refine aa ?_; refine a7 ?_; refine ab ?_; refine sx7 ?_; (iterate 5 refine qy ?_); refine a6 ?_; refine a7 ?_; refine sx7 ?_; (iterate 6 refine qy ?_)
     refine ca rfl rfl (fun r4 => ?_) (fun r4 => ?_)
     ·
      have h4 := r4
      have h4 := of_decide_eq_false (b8 h4)
      try simp only [ty] at h4
      (iterate 2 refine k9 (gtf r4) ?_); refine rq rfl rfl rfl rfl rfl ?_ (hp := r4); refine a6 ?_; refine a8 _ rfl (fun _ => ?_) (fun e => by cases e); refine sx7 ?_; refine qy ?_; refine a6 ?_
      exact hx8 rfl rfl rfl (⟨ccb (aa3 (i := i) (by omega) (by first | exact a7v (by assumption) | exact a8n (by assumption) | exact a1n (by omega) (by simp_all [ui]))).symm, trivial⟩)
     ·
      have h4 := r4
      have h4 := of_decide_eq_true (b7 h4)
      try simp only [ty] at h4
      refine qy ?_ (hg := (gff r4)); refine rc rfl rfl rfl rfl rfl rfl akt (aqy (l.getD i default) 233 0 (fun _ => .any) (fun x => decide (x < 0)) alm (fun x => arm x)) (CoL.refl _) rfl (gff r4) ?_; refine qy ?_
      refine a6 ?_; refine a8 _ rfl (fun r5 => ?_) (fun r5 => ?_)
      ·
       have h5 := r5
       have h5 := cu r4 h5
       refine sx7 ?_; refine qy ?_; refine a6 ?_
       exact hx8 rfl rfl rfl (⟨ccb (aa3 (i := i) (by omega) (by first | exact a7v (by assumption) | exact a8n (by assumption) | exact a1n (by omega) (by simp_all [ui]))).symm, trivial⟩)
      ·
       have h5 := r5
       have h5 := cu r4 h5
       refine aa ?_; refine sx7 ?_; (iterate 3 refine qy ?_); refine ca rfl rfl (fun r6 => ?_) (fun r6 => ?_)
       ·
        have h6 := of_decide_eq_true r6
        try simp only [ty] at h6
        (iterate 7 refine qy ?_ (hg := (gtt r6))); refine rc rfl rfl rfl rfl rfl rfl aj7 (aic (l.getD ((i : Int) - 1).toNat default) (l.getD i default)) (CoL.refl _) rfl (gtt r6) ?_; refine qy ?_ (hg := (gtt r6))
        refine qy ?_; refine a6 ?_; refine a8 _ rfl (fun r7 => ?_) (fun r7 => ?_)
        ·
         have h7 := r7
         have h7 := im r6 h7
         have h7 := of_decide_eq_true h7
         try simp only [ty] at h7
         refine sx7 ?_; refine qy ?_; refine a6 ?_
         exact hx8 rfl rfl rfl (⟨ccb (aa3 (i := i) (by omega) (a1n (by omega) fun e => absurd (tc.2 e) (by simp only [ui] at *; omega))).symm, trivial⟩)
        ·
         have h7 := r7
         have h7 := im r6 h7
         have h7 := of_decide_eq_false h7
         try simp only [ty] at h7
         refine aa ?_; refine gy ?_; (iterate 2 refine qy ?_); refine a6 ?_; refine ⟨i + 1, ?_, ?_, ?_⟩
         · exact ⟨by show i + 1 ≤ _; omega, c8 hI (a4u (by assumption) (by assumption) (by first | (exact .inl (by omega)) | (exact .inr (tc.1 (by simp only [ui] at *; omega)))))⟩
         · first | omega | (dsimp only; omega)
         · exact ⟨⟨zy, c9, c9, c9, trivial⟩, ⟨u9, trivial⟩⟩
       ·
        have h6 := of_decide_eq_false r6
        try simp only [ty] at h6
        (iterate 9 refine k9 (gft r6) ?_); refine rq rfl rfl rfl rfl rfl ?_ (hp := r6); refine a6 ?_; refine a8 _ rfl (fun e => by cases e) (fun _ => ?_); refine aa ?_; refine gy ?_; (iterate 2 refine qy ?_)
        refine a6 ?_; refine ⟨i + 1, ?_, ?_, ?_⟩
        · exact ⟨by show i + 1 ≤ _; omega, c8 hI (a4u (by assumption) (by assumption) (by first | (exact .inl (by omega)) | (exact .inr (tc.1 (by simp only [ui] at *; omega)))))⟩
        · first | omega | (dsimp only; omega)
        · exact ⟨⟨zy, c9, c9, c9, trivial⟩, ⟨u9, trivial⟩⟩
    ·
     have h3 := of_decide_eq_false r3
     try simp only [ty] at h3
     refine ar ?_; refine sx7 ?_; refine qy ?_; refine a6 ?_
     exact hx8 rfl rfl rfl (⟨ccb (aib (by omega) (by omega) (by omega) fun j hj => hI j (by omega)).symm, trivial⟩)
theorem alw : goodFn Tryz.prog 180 := ⟨Tryz.f180, Tryz.func180, by kernel_rfl, by kernel_rfl⟩
theorem ag7 (n : Int) (l : List Rw) (p m : List Fd) : ai Tryz.prog 180 [pT n l, pP (fdl p), pP (fdl m)] (al [pI (if tok n l = true then cj n p m else 1)]) := by
 refine aj (nt := 15) ah Tryz.func180 rfl rfl l9 ?_; refine sx7 ?_; refine m9 0 ?_; refine qy ?_; refine a6 ?_; refine a7 ?_; refine sx7 ?_; refine qy ?_
 refine rc rfl rfl rfl rfl rfl rfl al7 (ajp n l) (CoL.refl _) rfl rfl ?_; refine qy ?_; refine a6 ?_; refine a8 _ rfl (fun r0 => ?_) (fun r0 => ?_)
 ·
  have h0 := r0
  have h0 := b8 h0
  refine sx7 ?_; refine qy ?_; refine a6 ?_
  exact hx8 rfl rfl rfl (⟨cci (if_neg (by simp_all)).symm, trivial⟩)
 ·
  have h0 := r0
  have h0 := b7 h0
  refine aa ?_; refine sx7 ?_; (iterate 4 refine qy ?_); refine rc rfl rfl rfl rfl rfl rfl zw (w6 n p m) (CoL.refl _) rfl rfl ?_; refine qy ?_; refine a6 ?_
  exact hx8 rfl rfl rfl (⟨cci (if_pos (by simp_all)).symm, trivial⟩)
end Go.Hx
end
section
namespace Go.Hx
def j3 (a b : Rw) (s : AS) (i : Nat) : Rw := (List.range b.length).map fun (j : Nat) => if j < i ∧ dm s (j : Int) = true then a.getD j default else b.getD j default
theorem jv (a b : Rw) (s : AS) (i : Nat) : (j3 a b s i).length = b.length := by unfold j3; simp
theorem a12 {a b : Rw} {s : AS} {i k : Nat} (hk : k < b.length) : (j3 a b s i).getD k default = if k < i ∧ dm s (k : Int) = true then a.getD k default else b.getD k default := by
 unfold j3
 rw [List.getD_eq_getElem?_getD, List.getElem?_map, List.getElem?_range hk]
 rfl
theorem adv (a b : Rw) (s : AS) : b = j3 a b s 0 := lc (jv a b s 0).symm fun j hj => by
 rw [a12 hj, if_neg (by omega)]
theorem age (a b : Rw) (s : AS) : j3 a b s b.length = dx a b s := by
 unfold j3 dx
 refine List.map_congr_left fun k hk => ?_
 have := List.mem_range.1 hk
 by_cases h : dm s (k : Int) = true
 · rw [if_pos ⟨this, h⟩, if_pos h]
 · rw [if_neg (fun e => h e.2), if_neg h]
theorem aod {a b : Rw} {s : AS} {i : Nat} (h : ¬ dm s (i : Int) = true) : j3 a b s i = j3 a b s (i + 1) := by
 unfold j3
 refine List.map_congr_left fun k hk => ?_
 by_cases h2 : k < i ∧ dm s (k : Int) = true
 · rw [if_pos h2, if_pos ⟨by omega, h2.2⟩]
 · rw [if_neg h2, if_neg fun e => h2 ⟨by rcases Nat.lt_or_eq_of_le (Nat.le_of_lt_succ e.1) with h3 | h3
                                         · exact h3
                                         · subst h3; exact absurd e.2 h, e.2⟩]
theorem aof {a b : Rw} {s : AS} {i : Nat} (hi : i < b.length) (h : dm s (i : Int) = true) : (j3 a b s i).set i (a.getD i default) = j3 a b s (i + 1) := by
 refine lc (by rw [List.length_set, jv, jv]) fun j hj => ?_
 rw [List.length_set, jv] at hj
 rw [a12 hj]
 by_cases e : j = i
 · subst e
   rw [ib (by rw [jv]; exact hj), if_pos ⟨by omega, h⟩]
 · rw [getD_set_ne' e, a12 hj]
   by_cases h2 : j < i ∧ dm s (j : Int) = true
   · rw [if_pos h2, if_pos ⟨by omega, h2.2⟩]
   · rw [if_neg h2, if_neg fun e2 => h2 ⟨by omega, e2.2⟩]
theorem se (a b : Rw) (s : AS) : (dx a b s).length = b.length := by unfold dx; simp
theorem a6n {a b : Rw} {s : AS} {i n : Nat} {k : Nat} (hi : i < b.length) (h : dm s (i : Int) = true) (hn : n = b.length := by rfl) (hk : k = i := by rfl) :
 CoO (.arr true 1 3 n (dq (lf zC (j3 a b s i)) k 0 [.raw (.int .i64 (a.getD i default))])) (.arr true 1 3 n (lf zC (j3 a b s (i + 1)))) := by
 rw [← aof hi h]
 exact a93 (fun h => h) (hn.trans (jv a b s i).symm) hk (by rw [jv]; exact hi) rfl
theorem a48 {a b : Rw} {s : AS} {i n : Nat} (h : ¬ dm s (i : Int) = true) : CoO (.arr true 1 3 n (lf zC (j3 a b s i))) (.arr true 1 3 n (lf zC (j3 a b s (i + 1)))) := by
 rw [← aod h]
 exact CoO.refl _
theorem aih {n : Nat} {r : Rw} (h : r.length = n) : CoC (.one (.sl n 1 false (lf zC r))) (pZ r) := by subst h; exact CoC.refl _
end Go.Hx
end
section
namespace Go.Hx
open Go.Proofs
set_option maxRecDepth 100000
theorem a13 : goodFn Tryz.prog 215 := ⟨Tryz.f215, Tryz.func215, by kernel_rfl, by kernel_rfl⟩
theorem a28 (n : Nat) (c : Bool) (f : Nat → Nat → PV) (hn : n ≤ 17592186044416) :
 eg Tryz.prog 215 [.one (.p (.sl n 1 c f))] [] (.v (.one (.ref 0 n))) [(0, .arr true 1 3 n f)] [] := by
 refine jb (nt := 8) ah Tryz.func215 rfl rfl l9 rfl ?_; refine sx7 ?_; refine bv true rfl rfl rfl rfl rfl trivial ?_; refine a6 ?_
 refine wq (ι := Bool) (fun c => ⟨[(0, some (bf (.sl n 1 c f)))], []⟩) (fun _ => True) ?_ fun c _ => ?_
 · rcases Nat.eq_zero_or_pos n with hz | h0
   · subst hz
     refine hw_exact' 0 rfl fun ad cap hcap => ?_
     refine sx7 ?_; (iterate 2 refine bv true rfl rfl rfl rfl rfl trivial ?_); refine a6 ?_; refine a8 ad.isNone rfl (fun hc => ?_) (fun hc => ?_)
     · refine sx7 ?_
       refine bv true rfl rfl rfl rfl rfl trivial ?_; refine a6 ?_; refine gf 2 0 true 1 3 f (by decide) rfl (CoP.sl rfl (.inr rfl) (fun h => h) fun i j hi _ => absurd hi (Nat.not_lt_zero i)) (.inr rfl) rfl ?_
       refine bi ?_; refine ⟨.inr rfl, ?_⟩
       exact ⟨_, _, rfl, trivial, CoR.refl _, ⟨u9, trivial⟩⟩
     · refine aa ?_
       exact ⟨false, trivial, ⟨⟨_, rfl, CoP.raw_sl hcap⟩, trivial⟩, trivial⟩
   · refine sx7 ?_
     refine bv true rfl rfl rfl rfl rfl trivial ?_; refine bv true rfl rfl rfl rfl rfl h0 ?_; refine a6 ?_; refine a8 false rfl (fun hc => by cases hc) (fun hc => ?_); refine aa ?_
     exact ⟨c, trivial, ⟨c9, trivial⟩, trivial⟩
 · refine sx7 ?_
   refine s5 0 rfl rfl rfl rfl rfl rfl trivial ?_; refine bv true rfl rfl rfl rfl rfl trivial ?_
   refine a01 0 true rfl rfl rfl rfl rfl rfl ⟨trivial, rfl, rfl, rfl, .inl rfl, by show 0 + n ≤ 9223372036854775807; omega, by show (0 + n) * 8 ≤ 140737488355328; omega, fun _ => .inl rfl⟩ ?_
   refine bv true rfl rfl rfl rfl rfl trivial ?_; refine a6 ?_; refine bi ?_; refine ⟨.inr rfl, ?_⟩
   refine ⟨_, _, rfl, trivial, CoR.of_eq (by show HR.v (.one (.ref 0 (0 + n))) = _; rw [Nat.zero_add]), ⟨⟨_, rfl, ?_⟩, trivial⟩⟩
   exact ⟨fun h => h, rfl, rfl, (Nat.zero_add n).symm, fun i j _ _ => CoP.of_eq (by simp [ej])⟩
theorem af7 (n : Nat) (c : Bool) (f : Nat → Nat → PV) (hn : n ≤ 17592186044416) : ai Tryz.prog 215 [.one (.sl n 1 c f)] (.v (.one (.sl n 1 false f))) :=
 eg.pure (args := [.one (.sl n 1 c f)]) (l := [.one (.ref 0 n)]) (a28 n c f hn) rfl ⟨rfl, trivial⟩
theorem a1d : goodFn Tryz.prog 181 := ⟨Tryz.f181, Tryz.func181, by kernel_rfl, by kernel_rfl⟩
theorem a8f (n : Int) (l : List Rw) (hl : ∀ i, i < l.length → (l.getD i default).length ≤ 17592186044416) (hl2 : l.length ≤ 5864062014805) : eg Tryz.prog 181 [.agg [.p (.raw (.int .i64 n)), .p (rl l)]] [] (.v (.agg [.p (.raw (.int .i64 n)), .ref 901 l.length])) [(901, .arr true 1 121 l.length (lf rC l))] [] := by
 refine jb (nt := 25) ah Tryz.func181 rfl rfl l9 rfl ?_; refine sx7 ?_; refine m9 0 ?_; refine m9 1 ?_; refine a6 ?_; refine sx7 ?_; (iterate 3 refine qy ?_); refine m9 2 ?_; refine s9 ?_; refine a6 ?_
 refine tu 2 1 901 true 1 121 (lf rC l) (by decide) rfl rfl (CoP.sl rfl (.inr rfl) (fun h => h) (fun i j hi _ => absurd hi (Nat.not_lt_zero i))) (.inr rfl) rfl rfl ?_; refine a7 ?_; refine sx7 ?_
 (iterate 4 refine qy ?_); refine a6 ?_; refine ab ?_
 refine ao (ι := Nat) ⟨[(2, some _), (3, some _), (10, some _), (11, some _)], [(1, some _)]⟩ ⟨⟨c9, c9, c9, c9, trivial⟩, ⟨u9, trivial⟩⟩ (fun i => ⟨[(12, some (vI i))], [(2, some (.box [.p (.raw (.int .i64 n)), .ref 901 i])), (901, some (.arr true 1 121 i (lf rC l)))]⟩) (fun i => i ≤ l.length) (fun i => l.length - i) (0) (Nat.zero_le _) ⟨⟨zy, trivial⟩, ⟨u9, u9, trivial⟩⟩ ?_
 rintro i hi
 refine sx7 ?_; refine qy ?_; refine a6 ?_; refine a7 ?_; refine a8 _ rfl (fun r0 => ?_) (fun r0 => ?_)
 ·
  have h0 := of_decide_eq_true r0
  try simp only [ty] at h0
  refine aa ?_; refine a7 ?_; refine ab ?_; refine sx7 ?_; (iterate 3 refine qy ?_); refine a6 ?_; refine br (E := c6) ah bh [0, 1, 2, 3, 4, 5, 6, 7] ?_; (iterate 3 refine qy ?_)
  refine rc rfl rfl rfl rfl rfl rfl a13 (af7 (l.getD i default).length false (lf zC (l.getD i default)) (hl i (by omega))) (CoL.refl _) rfl rfl ?_; refine m9 3 ?_; refine ra 4 true rfl rfl rfl rfl rfl rfl ?_; refine qy ?_
  refine s9 ?_; refine a6 ?_; refine ⟨by kernel_rfl, ?_⟩; refine gy ?_; (iterate 2 refine qy ?_); refine a6 ?_; refine ⟨i + 1, ?_, ?_, ?_⟩
  · show i + 1 ≤ _; omega
  · first | omega | (dsimp only; omega)
  · exact ⟨⟨zy, c9, c9, c9, c9, trivial⟩, ⟨u9, ⟨_, rfl, (a92 (fun h => h) (fun j hj => by obtain rfl : j = 0 := (by omega); exact CoP.refl _))⟩, u9, trivial⟩⟩
 ·
  have h0 := of_decide_eq_false r0
  try simp only [ty] at h0
  obtain rfl : i = l.length := by omega
  refine ar ?_; refine sx7 ?_; refine qy ?_; refine s9 ?_; refine a6 ?_; refine bi ?_; refine ⟨.inr rfl, ?_⟩
  exact ⟨_, _, rfl, (by (repeat' apply And.intro) <;> first | trivial | exact Nat.le_of_ble_eq_true rfl), CoR.refl _, ⟨u9, trivial⟩⟩
theorem ai1 (n : Int) (l : List Rw) (hl : ∀ i, i < l.length → (l.getD i default).length ≤ 17592186044416) (hl2 : l.length ≤ 5864062014805) : ai Tryz.prog 181 [pT n l] (al [pT n l]) :=
 eg.pure (args := [pT n l]) (l := [.agg [.p (.raw (.int .i64 n)), .ref 901 l.length]]) (a8f n l hl hl2) rfl ⟨⟨trivial, rfl, trivial⟩, trivial⟩
theorem a8c : goodFn Tryz.prog 217 := ⟨Tryz.f217, Tryz.func217, by kernel_rfl, by kernel_rfl⟩
theorem ade (a b : Rw) (s : AS) (h : a.length = b.length) (h16 : b.length ≤ 16) : ai Tryz.prog 217 [pZ a, pZ b, pA s] (al [pZ (dx a b s)]) := by
 refine aj (nt := 30) ah Tryz.func217 rfl rfl l9 ?_; refine sx7 ?_; refine qy ?_; refine a6 ?_; refine sx7 ?_; refine qy ?_
 refine d5 rfl rfl rfl rfl rfl rfl a13 (a28 b.length false (lf zC b) (by omega)) (ek.refl _) trivial rfl rfl ?_; refine qy ?_; refine a6 ?_; refine a7 ?_; refine sx7 ?_; (iterate 3 refine qy ?_)
 refine a6 ?_; refine ab ?_
 refine ao (ι := Nat) ⟨[(0, some _), (2, some _), (7, some _), (12, some _)], []⟩ ⟨⟨c9, c9, c9, c9, trivial⟩, trivial⟩ (fun i => ⟨[(13, some (vI i))], [(0, some (.arr true 1 3 b.length (lf zC (j3 a b s i))))]⟩) (fun i => i ≤ b.length) (fun i => b.length - i) (0) (Nat.zero_le _) ⟨⟨zy, trivial⟩, ⟨⟨_, rfl, (CoO.of_eq (by rw [← adv]))⟩, trivial⟩⟩ ?_
 rintro i hi
 refine sx7 ?_; refine qy ?_; refine a6 ?_; refine a7 ?_; refine a8 _ rfl (fun r0 => ?_) (fun r0 => ?_)
 ·
  have h0 := of_decide_eq_true r0
  try simp only [ty] at h0
  refine aa ?_; refine a7 ?_; refine ab ?_; refine sx7 ?_; (iterate 2 refine qy ?_); refine a6 ?_; refine sx7 ?_; (iterate 5 refine qy ?_); refine a6 ?_; refine a8 _ rfl (fun r1 => ?_) (fun r1 => ?_)
  ·
   have h1 := of_decide_eq_true r1
   try simp only [ty] at h1
   refine gy ?_; (iterate 7 refine qy ?_); refine s9 ?_; refine a6 ?_; refine gy ?_; (iterate 2 refine qy ?_); refine a6 ?_; refine ⟨i + 1, ?_, ?_, ?_⟩
   · show i + 1 ≤ _; omega
   · first | omega | (dsimp only; omega)
   · exact ⟨⟨zy, c9, c9, c9, c9, trivial⟩, ⟨⟨_, rfl, (by first | exact a6n (by omega) ((kp (by omega)).1 (by assumption)) | exact a48 (fun e => absurd ((kp (by omega)).2 e) (by assumption)))⟩, trivial⟩⟩
  ·
   have h1 := of_decide_eq_false r1
   try simp only [ty] at h1
   refine aa ?_; refine gy ?_; (iterate 2 refine qy ?_); refine a6 ?_; refine ⟨i + 1, ?_, ?_, ?_⟩
   · show i + 1 ≤ _; omega
   · first | omega | (dsimp only; omega)
   · exact ⟨⟨zy, c9, c9, c9, c9, trivial⟩, ⟨⟨_, rfl, (by first | exact a6n (by omega) ((kp (by omega)).1 (by assumption)) | exact a48 (fun e => absurd ((kp (by omega)).2 e) (by assumption)))⟩, trivial⟩⟩
 ·
  have h0 := of_decide_eq_false r0
  try simp only [ty] at h0
  obtain rfl : i = b.length := by omega
  refine ar ?_; refine a7 ?_; refine ce 7 rfl rfl rfl ?_; refine gy ?_; (iterate 2 refine qy ?_); refine a6 ?_
  exact hx8 rfl rfl rfl (⟨by rw [age]; exact aih (se a b s), trivial⟩)
end Go.Hx
end
