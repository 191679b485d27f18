/- A part of the proof: lemmas for the theorem of this claim, merged by a program of ours out of X1, X2, Ch3, X3, X4, Ch4, X5. -/
import Derived.Test.YtidophngianjiaaGreatDoorP30
set_option linter.all false
section
namespace Go.Hx
open Go.Proofs
set_option maxRecDepth 100000
set_option maxHeartbeats 1000000
theorem good245 : goodFn Tryz.prog 245 := ⟨Tryz.f245, Tryz.func245, by kernel_rfl, by kernel_rfl⟩
theorem cIxZ (l : List Int) (g k : Nat) (caps : Nat → PV) (V : Int → Bool) (hg : goodFn Tryz.prog g) (hV : ∀ x, HPure Tryz.prog g (pI x :: capsOf caps k 0) (prOf [pB (V x)])) : HPure Tryz.prog 245 [pP (zl l), pP (.fn g k caps)] (prOf [pI (idx V l)]) := by
 refine hpure_of (nt := 19) Tryzok Tryz.func245 rfl rfl l9 ?_; refine hw_seq ?_
 refine hw_bt 0 rfl fun hn => ?_
 refine gy ?_; refine qy ?_; refine rg_nil ?_; refine hw_joinK (ι := Unit) ⟨[], []⟩ ⟨trivial, trivial⟩ (fun _i => ⟨[], []⟩) (fun _i => idx V l = -1) ?_ ?_
 ·
  refine hw_seq ?_; refine gy ?_; (iterate 3 refine qy ?_); refine rg_nil ?_; refine hw_block ?_
  refine hw_loopK (ι := Nat) ⟨[(0, some _), (1, some _), (7, some _)], []⟩ ⟨⟨c9, c9, c9, trivial⟩, trivial⟩ (fun i => ⟨[(8, some (vI i))], []⟩) (fun i => i ≤ l.length ∧ (∀ j, j < i → V (l.getD j default) = false)) (fun i => l.length - i) (0) (⟨Nat.zero_le _, all_zero⟩) ⟨⟨zy, trivial⟩, trivial⟩ ?_
  rintro i ⟨hi, hI⟩
  refine hw_seq ?_; refine gy ?_; refine qy ?_; refine rg_nil ?_; refine hw_seq ?_; refine hw_cond _ rfl (fun r0 => ?_) (fun r0 => ?_)
  ·
   have h0 := of_decide_eq_true r0
   try simp only [ty] at h0
   refine hw_skip ?_; refine hw_seq ?_; refine hw_block ?_; refine hw_seq ?_; refine gy ?_; (iterate 2 refine qy ?_); refine rg_nil ?_; refine hw_seq ?_; refine gy ?_; (iterate 5 refine qy ?_)
   refine rc rfl rfl rfl rfl rfl rfl hg (hV (l.getD i default)) (CoL.refl _) rfl rfl ?_; refine rg_nil ?_; refine hw_cond _ rfl (fun r1 => ?_) (fun r1 => ?_)
   ·
    have h1 := r1
    refine hw_seq ?_; refine gy ?_; (iterate 2 refine qy ?_); refine rg_nil ?_; refine hw_ret ?_; refine ⟨.inr rfl, ?_⟩
    exact f9 rfl rfl (⟨cci (idx_t (i := i) (by omega) hI h1).symm, trivial⟩)
   ·
    have h1 := r1
    refine hw_skip ?_; refine gy ?_; (iterate 2 refine qy ?_); refine rg_nil ?_; refine ⟨i + 1, ?_, ?_, ?_⟩
    · exact ⟨by show i + 1 ≤ _; omega, all_succ hI (h1)⟩
    · first | omega | (dsimp only; omega)
    · exact ⟨⟨zy, c9, c9, c9, trivial⟩, trivial⟩
  ·
   have h0 := of_decide_eq_false r0
   try simp only [ty] at h0
   refine hw_exit ?_; refine ⟨(), ?_, ?_⟩
   · exact idx_f fun j hj => hI j (by omega)
   · exact ⟨trivial, trivial⟩
 · rintro _ hj
   refine hw_seq ?_; refine gy ?_; refine qy ?_; refine rg_nil ?_; refine hw_ret ?_; refine ⟨.inr rfl, ?_⟩
   exact f9 rfl rfl (⟨cci hj.symm, trivial⟩)
theorem good184 : goodFn Tryz.prog 184 := ⟨Tryz.f184, Tryz.func184, by kernel_rfl, by kernel_rfl⟩
theorem cIxR (l : List Rw) (g k : Nat) (caps : Nat → PV) (V : Rw → Bool) (hg : goodFn Tryz.prog g) (hV : ∀ x, HPure Tryz.prog g (pZ x :: capsOf caps k 0) (prOf [pB (V x)])) : HPure Tryz.prog 184 [pP (rl l), pP (.fn g k caps)] (prOf [pI (idx V l)]) := by
 refine hpure_of (nt := 19) Tryzok Tryz.func184 rfl rfl l9 ?_; refine hw_seq ?_
 refine hw_bt 0 rfl fun hn => ?_
 refine gy ?_; refine qy ?_; refine rg_nil ?_; refine hw_joinK (ι := Unit) ⟨[], []⟩ ⟨trivial, trivial⟩ (fun _i => ⟨[], []⟩) (fun _i => idx V l = -1) ?_ ?_
 ·
  refine hw_seq ?_; refine gy ?_; (iterate 3 refine qy ?_); refine rg_nil ?_; refine hw_block ?_
  refine hw_loopK (ι := Nat) ⟨[(0, some _), (1, some _), (7, some _)], []⟩ ⟨⟨c9, c9, c9, trivial⟩, trivial⟩ (fun i => ⟨[(8, some (vI i))], []⟩) (fun i => i ≤ l.length ∧ (∀ j, j < i → V (l.getD j default) = false)) (fun i => l.length - i) (0) (⟨Nat.zero_le _, all_zero⟩) ⟨⟨zy, trivial⟩, trivial⟩ ?_
  rintro i ⟨hi, hI⟩
  refine hw_seq ?_; refine gy ?_; refine qy ?_; refine rg_nil ?_; refine hw_seq ?_; refine hw_cond _ rfl (fun r0 => ?_) (fun r0 => ?_)
  ·
   have h0 := of_decide_eq_true r0
   try simp only [ty] at h0
   refine hw_skip ?_; refine hw_seq ?_; refine hw_block ?_; refine hw_seq ?_; refine gy ?_; (iterate 2 refine qy ?_); refine rg_nil ?_; refine hw_seq ?_; refine gy ?_; (iterate 5 refine qy ?_)
   refine rc rfl rfl rfl rfl rfl rfl hg (hV (l.getD i default)) (CoL.refl _) rfl rfl ?_; refine rg_nil ?_; refine hw_cond _ rfl (fun r1 => ?_) (fun r1 => ?_)
   ·
    have h1 := r1
    refine hw_seq ?_; refine gy ?_; (iterate 2 refine qy ?_); refine rg_nil ?_; refine hw_ret ?_; refine ⟨.inr rfl, ?_⟩
    exact f9 rfl rfl (⟨cci (idx_t (i := i) (by omega) hI h1).symm, trivial⟩)
   ·
    have h1 := r1
    refine hw_skip ?_; refine gy ?_; (iterate 2 refine qy ?_); refine rg_nil ?_; refine ⟨i + 1, ?_, ?_, ?_⟩
    · exact ⟨by show i + 1 ≤ _; omega, all_succ hI (h1)⟩
    · first | omega | (dsimp only; omega)
    · exact ⟨⟨zy, c9, c9, c9, trivial⟩, trivial⟩
  ·
   have h0 := of_decide_eq_false r0
   try simp only [ty] at h0
   refine hw_exit ?_; refine ⟨(), ?_, ?_⟩
   · exact idx_f fun j hj => hI j (by omega)
   · exact ⟨trivial, trivial⟩
 · rintro _ hj
   refine hw_seq ?_; refine gy ?_; refine qy ?_; refine rg_nil ?_; refine hw_ret ?_; refine ⟨.inr rfl, ?_⟩
   exact f9 rfl rfl (⟨cci hj.symm, trivial⟩)
theorem good232 : goodFn Tryz.prog 232 := ⟨Tryz.f232, Tryz.func232, by kernel_rfl, by kernel_rfl⟩
theorem cCoZ (l : List Int) (g k : Nat) (caps : Nat → PV) (V : Int → Bool) (hg : goodFn Tryz.prog g) (hV : ∀ x, HPure Tryz.prog g (pI x :: capsOf caps k 0) (prOf [pB (V x)])) : HPure Tryz.prog 232 [pP (zl l), pP (.fn g k caps)] (prOf [pB (l.any V)]) := by
 refine hpure_of (nt := 9) Tryzok Tryz.func232 rfl rfl l9 ?_; refine hw_seq ?_; refine gy ?_; refine qy ?_; refine rg_nil ?_; refine hw_seq ?_; refine gy ?_; (iterate 2 refine qy ?_)
 refine rc rfl rfl rfl rfl rfl rfl good245 (cIxZ l g k caps V hg hV) (CoL.refl _) rfl rfl ?_; (iterate 2 refine qy ?_); refine rg_nil ?_; refine hw_ret ?_; refine ⟨.inr rfl, ?_⟩
 exact f9 rfl rfl (⟨ccb idx_ge, trivial⟩)
theorem good150 : goodFn Tryz.prog 150 := ⟨Tryz.f150, Tryz.func150, by kernel_rfl, by kernel_rfl⟩
theorem cCoR (l : List Rw) (g k : Nat) (caps : Nat → PV) (V : Rw → Bool) (hg : goodFn Tryz.prog g) (hV : ∀ x, HPure Tryz.prog g (pZ x :: capsOf caps k 0) (prOf [pB (V x)])) : HPure Tryz.prog 150 [pP (rl l), pP (.fn g k caps)] (prOf [pB (l.any V)]) := by
 refine hpure_of (nt := 9) Tryzok Tryz.func150 rfl rfl l9 ?_; refine hw_seq ?_; refine gy ?_; refine qy ?_; refine rg_nil ?_; refine hw_seq ?_; refine gy ?_; (iterate 2 refine qy ?_)
 refine rc rfl rfl rfl rfl rfl rfl good184 (cIxR l g k caps V hg hV) (CoL.refl _) rfl rfl ?_; (iterate 2 refine qy ?_); refine rg_nil ?_; refine hw_ret ?_; refine ⟨.inr rfl, ?_⟩
 exact f9 rfl rfl (⟨ccb idx_ge, trivial⟩)
theorem good152 : goodFn Tryz.prog 152 := ⟨Tryz.f152, Tryz.func152, by kernel_rfl, by kernel_rfl⟩
theorem cEqZ (a b : Rw) : HPure Tryz.prog 152 [pZ a, pZ b] (prOf [pB (decide (a = b))]) := by
 refine hpure_of (nt := 26) Tryzok Tryz.func152 rfl rfl l9 ?_; refine hw_seq ?_
 refine hw_bt 0 rfl fun hn0 => ?_
 refine hw_bt 1 rfl fun hn1 => ?_
 refine gy ?_; refine qy ?_; refine rg_nil ?_; (iterate 2 refine hw_seq ?_); refine gy ?_; (iterate 5 refine qy ?_); refine rg_nil ?_; refine hw_cond _ rfl (fun r0 => ?_) (fun r0 => ?_)
 ·
  have h0 := r0
  have h0 := of_decide_eq_false (not_t h0)
  try simp only [ty] at h0
  refine hw_seq ?_; refine gy ?_; refine qy ?_; refine rg_nil ?_; refine hw_ret ?_; refine ⟨.inr rfl, ?_⟩
  exact f9 rfl rfl (⟨ccb (decide_eq_false fun e => by subst e; omega).symm, trivial⟩)
 ·
  have h0 := r0
  have h0 := of_decide_eq_true (not_f h0)
  try simp only [ty] at h0
  refine hw_skip ?_; refine hw_joinK (ι := Unit) ⟨[], []⟩ ⟨trivial, trivial⟩ (fun _i => ⟨[], []⟩) (fun _i => a = b) ?_ ?_
  ·
   refine hw_seq ?_; refine gy ?_; (iterate 3 refine qy ?_); refine rg_nil ?_; refine hw_block ?_
   refine hw_loopK (ι := Nat) ⟨[(0, some _), (1, some _), (12, some _)], []⟩ ⟨⟨c9, c9, c9, trivial⟩, trivial⟩ (fun i => ⟨[(13, some (vI i))], []⟩) (fun i => i ≤ a.length ∧ (∀ j, j < i → decide (a.getD j default = b.getD j default) = true)) (fun i => a.length - i) (0) (⟨Nat.zero_le _, all_zero⟩) ⟨⟨zy, trivial⟩, trivial⟩ ?_
   rintro i ⟨hi, hI⟩
   refine hw_seq ?_; refine gy ?_; refine qy ?_; refine rg_nil ?_; refine hw_seq ?_; refine hw_cond _ rfl (fun r1 => ?_) (fun r1 => ?_)
   ·
    have h1 := of_decide_eq_true r1
    try simp only [ty] at h1
    refine hw_skip ?_; refine hw_seq ?_; refine hw_block ?_; refine hw_seq ?_; refine gy ?_; (iterate 2 refine qy ?_); refine rg_nil ?_; refine hw_seq ?_
    refine hw_draw (E := TryzE) Tryzok Tryzmixed [0, 1, 2, 3, 4, 5, 6, 7, 8] ?_; (iterate 9 refine qy ?_); refine rg_nil ?_; refine ⟨by kernel_rfl, ?_⟩; refine hw_cond _ rfl (fun r2 => ?_) (fun r2 => ?_)
    ·
     have h2 := r2
     have h2 := of_decide_eq_false (not_t h2)
     try simp only [ty] at h2
     refine hw_seq ?_; refine gy ?_; refine qy ?_; refine rg_nil ?_; refine hw_ret ?_; refine ⟨.inr rfl, ?_⟩
     exact f9 rfl rfl (⟨ccb (decide_eq_false fun e => by subst e; simp_all).symm, trivial⟩)
    ·
     have h2 := r2
     have h2 := of_decide_eq_true (not_f h2)
     try simp only [ty] at h2
     refine hw_skip ?_; refine gy ?_; (iterate 2 refine qy ?_); refine rg_nil ?_; refine ⟨i + 1, ?_, ?_, ?_⟩
     · exact ⟨by show i + 1 ≤ _; omega, all_succ hI (decide_eq_true (by simp_all))⟩
     · first | omega | (dsimp only; omega)
     · exact ⟨⟨zy, c9, c9, c9, trivial⟩, trivial⟩
   ·
    have h1 := of_decide_eq_false r1
    try simp only [ty] at h1
    refine hw_exit ?_; refine ⟨(), ?_, ?_⟩
    · exact rw_eq (by omega) fun j hj => hI j (by omega)
    · exact ⟨trivial, trivial⟩
  · rintro _ hj
    refine hw_seq ?_; refine gy ?_; refine qy ?_; refine rg_nil ?_; refine hw_ret ?_; refine ⟨.inr rfl, ?_⟩
    exact f9 rfl rfl (⟨ccb (decide_eq_true hj).symm, trivial⟩)
theorem good212 : goodFn Tryz.prog 212 := ⟨Tryz.f212, Tryz.func212, by kernel_rfl, by kernel_rfl⟩
theorem cCmpZ (a b : Rw) : HPure Tryz.prog 212 [pZ a, pZ b] (prOf [pI (cmpZ a b)]) := by
 refine hpure_of (nt := 36) Tryzok Tryz.func212 rfl rfl l9 ?_; refine hw_seq ?_
 refine hw_bt 0 rfl fun hn0 => ?_
 refine hw_bt 1 rfl fun hn1 => ?_
 refine gy ?_; refine qy ?_; refine rg_nil ?_
 refine hw_joinK (ι := Unit) ⟨[(0, some _), (1, some _)], []⟩ ⟨⟨c9, c9, trivial⟩, trivial⟩ (fun _i => ⟨[], []⟩) (fun _i => ∀ j, j < a.length → j < b.length ∧ a.getD j default = b.getD j default) ?_ ?_
 ·
  refine hw_seq ?_; refine gy ?_; (iterate 3 refine qy ?_); refine rg_nil ?_; refine hw_block ?_
  refine hw_loopK (ι := Nat) ⟨[(0, some _), (1, some _), (9, some _), (10, some _)], []⟩ ⟨⟨c9, c9, c9, c9, trivial⟩, trivial⟩ (fun i => ⟨[(11, some (vI i))], []⟩) (fun i => i ≤ a.length ∧ (∀ j, j < i → j < b.length ∧ a.getD j default = b.getD j default)) (fun i => a.length - i) (0) (⟨Nat.zero_le _, all_zero⟩) ⟨⟨zy, trivial⟩, trivial⟩ ?_
  rintro i ⟨hi, hI⟩
  refine hw_seq ?_; refine gy ?_; refine qy ?_; refine rg_nil ?_; refine hw_seq ?_; refine hw_cond _ rfl (fun r0 => ?_) (fun r0 => ?_)
  ·
   have h0 := of_decide_eq_true r0
   try simp only [ty] at h0
   refine hw_skip ?_; refine hw_seq ?_; refine hw_block ?_; refine hw_seq ?_; refine gy ?_; (iterate 5 refine qy ?_); refine rg_nil ?_; (iterate 2 refine hw_seq ?_); refine gy ?_; (iterate 4 refine qy ?_); refine rg_nil ?_
   refine hw_cond _ rfl (fun r1 => ?_) (fun r1 => ?_)
   ·
    have h1 := of_decide_eq_true r1
    try simp only [ty] at h1
    refine hw_seq ?_; refine gy ?_; refine qy ?_; refine rg_nil ?_; refine hw_ret ?_; refine ⟨.inr rfl, ?_⟩
    exact f9 rfl rfl (⟨cci (cmpZ_gt (i := i) (by omega) (by omega) fun j hj => (hI j hj).2), trivial⟩)
   ·
    have h1 := of_decide_eq_false r1
    try simp only [ty] at h1
    refine hw_skip ?_; refine hw_seq ?_; refine gy ?_; (iterate 5 refine qy ?_); refine rg_nil ?_; refine hw_seq ?_; refine gy ?_; (iterate 2 refine qy ?_)
    refine rc rfl rfl rfl rfl rfl rfl good163 (cCmpI (a.getD i default) (b.getD i default)) (CoL.refl _) rfl rfl ?_; refine qy ?_; refine rg_nil ?_; refine hw_seq ?_; refine gy ?_; (iterate 2 refine qy ?_); refine rg_nil ?_
    refine hw_cond _ rfl (fun r2 => ?_) (fun r2 => ?_)
    ·
     have h2 := r2
     have h2 := of_decide_eq_false (not_t h2)
     try simp only [ty] at h2
     refine hw_seq ?_; refine gy ?_; (iterate 2 refine qy ?_); refine rg_nil ?_; refine hw_ret ?_; refine ⟨.inr rfl, ?_⟩
     exact f9 rfl rfl (⟨cci (cmpZ_at (i := i) (by omega) (by omega) (fun j hj => (hI j hj).2) (by assumption)), trivial⟩)
    ·
     have h2 := r2
     have h2 := of_decide_eq_true (not_f h2)
     try simp only [ty] at h2
     refine hw_skip ?_; refine gy ?_; (iterate 2 refine qy ?_); refine rg_nil ?_; refine ⟨i + 1, ?_, ?_, ?_⟩
     · exact ⟨by show i + 1 ≤ _; omega, all_succ hI (⟨by omega, cmpI_0 (by assumption)⟩)⟩
     · first | omega | (dsimp only; omega)
     · exact ⟨⟨zy, c9, c9, c9, c9, trivial⟩, trivial⟩
  ·
   have h0 := of_decide_eq_false r0
   try simp only [ty] at h0
   refine hw_exit ?_; refine ⟨(), ?_, ?_⟩
   · exact fun j hj => hI j (by omega)
   · exact ⟨⟨c9, c9, trivial⟩, trivial⟩
 · rintro _ hj
   (iterate 2 refine hw_seq ?_); refine gy ?_; (iterate 5 refine qy ?_); refine rg_nil ?_; refine hw_cond _ rfl (fun r3 => ?_) (fun r3 => ?_)
   ·
    have h3 := of_decide_eq_true r3
    try simp only [ty] at h3
    refine hw_seq ?_; refine gy ?_; refine qy ?_; refine rg_nil ?_; refine hw_ret ?_; refine ⟨.inr rfl, ?_⟩
    exact f9 rfl rfl (⟨cci (cmpZ_lt (by omega) fun j h => (hj j h).2), trivial⟩)
   ·
    have h3 := of_decide_eq_false r3
    try simp only [ty] at h3
    refine hw_skip ?_; refine hw_seq ?_; refine gy ?_; refine qy ?_; refine rg_nil ?_; refine hw_ret ?_; refine ⟨.inr rfl, ?_⟩
    exact f9 rfl rfl (⟨cci (cmpZ_eq (len_le fun j h => (hj j h).1) (by omega) fun j h => (hj j h).2), trivial⟩)
end Go.Hx
end
section
namespace Go.Hx
open Go.Proofs
set_option maxRecDepth 100000
abbrev bxZ (a : PV) : PV := .vp 1 fun j => [a].getD j .any
theorem good151 : goodFn Tryz.prog 151 := ⟨Tryz.f151, Tryz.func151, by kernel_rfl, by kernel_rfl⟩
theorem cCont1 (r row : Rw) : HPure Tryz.prog 151 [pZ r, pP (bxZ (zl row))] (prOf [pB (decide (r = row))]) := by
 refine hpure_of (nt := 7) Tryzok Tryz.func151 rfl rfl l9 ?_; refine hw_seq ?_; refine gy ?_; refine qy ?_; refine rg_nil ?_; refine hw_seq ?_; refine gy ?_; (iterate 2 refine qy ?_)
 refine rc rfl rfl rfl rfl rfl rfl good152 (cEqZ _ _) (CoL.refl _) rfl rfl ?_; refine qy ?_; refine rg_nil ?_; refine hw_ret ?_; refine ⟨.inr rfl, ?_⟩
 exact f9 rfl rfl (CoL.refl _)
theorem good99 : goodFn Tryz.prog 99 := ⟨Tryz.f99, Tryz.func99, by kernel_rfl, by kernel_rfl⟩
theorem cCont (n : Int) (l : List Rw) (row : Rw) : HPure Tryz.prog 99 [pT n l, pZ row] (prOf [pB (l.any fun r => decide (r = row))]) := by
 refine hpure_of (nt := 9) Tryzok Tryz.func99 rfl rfl l9 ?_; refine hw_seq ?_; refine gy ?_; refine m9 0 ?_; refine m9 1 ?_; refine qy ?_; refine rg_nil ?_; refine hw_seq ?_; refine hw_freeze_box 3 rfl rfl rfl ?_; refine gy ?_
 (iterate 3 refine qy ?_); refine rc rfl rfl rfl rfl rfl rfl good150 (cCoR l 151 1 (fun i => [bxZ (zl row)].getD i .any) (fun r => decide (r = row)) good151 (fun r => cCont1 r row)) (CoL.refl _) rfl rfl ?_; refine qy ?_
 refine rg_nil ?_; refine hw_ret ?_; refine ⟨.inr rfl, ?_⟩
 exact f9 rfl rfl (CoL.refl _)
theorem good233 : goodFn Tryz.prog 233 := ⟨Tryz.f233, Tryz.func233, by kernel_rfl, by kernel_rfl⟩
theorem cNeg (x : Int) : HPure Tryz.prog 233 [pI x] (prOf [pB (decide (x < 0))]) := by
 refine hpure_of (nt := 5) Tryzok Tryz.func233 rfl rfl l9 ?_; refine hw_seq ?_; refine gy ?_; refine qy ?_; refine rg_nil ?_; refine hw_seq ?_; refine gy ?_; (iterate 3 refine qy ?_); refine rg_nil ?_; refine hw_ret ?_
 refine ⟨.inr rfl, ?_⟩
 exact f9 rfl rfl (CoL.refl _)
theorem good216 : goodFn Tryz.prog 216 := ⟨Tryz.f216, Tryz.func216, by kernel_rfl, by kernel_rfl⟩
theorem cAgree (a b : Rw) (s : AS) (h : b.length = a.length) (h16 : a.length ≤ 16) : HPure Tryz.prog 216 [pZ a, pZ b, pA s] (prOf [pB (agrZ a b s)]) := by
 refine hpure_of (nt := 30) Tryzok Tryz.func216 rfl rfl l9 ?_; refine hw_seq ?_
 refine hw_bt 0 rfl fun hn0 => ?_
 refine hw_bt 1 rfl fun hn1 => ?_
 refine gy ?_; refine qy ?_; refine rg_nil ?_; refine hw_joinK (ι := Unit) ⟨[], []⟩ ⟨trivial, trivial⟩ (fun _i => ⟨[], []⟩) (fun _i => agrZ a b s = true) ?_ ?_
 ·
  refine hw_seq ?_; refine gy ?_; (iterate 3 refine qy ?_); refine rg_nil ?_; refine hw_block ?_
  refine hw_loopK (ι := Nat) ⟨[(0, some _), (1, some _), (2, some _), (9, some _)], []⟩ ⟨⟨c9, c9, c9, c9, trivial⟩, trivial⟩ (fun i => ⟨[(10, some (vI i))], []⟩) (fun i => i ≤ a.length ∧ (∀ j : Nat, j < i → (hasI s (j : Int) = true → a.getD j default = b.getD j default))) (fun i => a.length - i) (0) (⟨Nat.zero_le _, all_zero⟩) ⟨⟨zy, trivial⟩, trivial⟩ ?_
  rintro i ⟨hi, hI⟩
  refine hw_seq ?_; refine gy ?_; refine qy ?_; refine rg_nil ?_; refine hw_seq ?_; refine hw_cond _ rfl (fun r0 => ?_) (fun r0 => ?_)
  ·
   have h0 := of_decide_eq_true r0
   try simp only [ty] at h0
   refine hw_skip ?_; refine hw_seq ?_; refine hw_block ?_; refine hw_seq ?_; refine gy ?_; (iterate 2 refine qy ?_); refine rg_nil ?_; refine hw_seq ?_
   refine hw_draw (E := TryzE) Tryzok Tryzmixed [0, 1, 2, 3, 4, 5, 6, 7, 8, 9, 10, 11, 12, 13, 14, 15] ?_; (iterate 6 refine qy ?_); refine rsplit rfl rfl (fun r1 => ?_) (fun r1 => ?_)
   ·
    have h1 := of_decide_eq_true r1
    try simp only [ty] at h1
    (iterate 9 refine qy ?_ (hg := (gtt r1))); refine qy ?_; refine rg_nil ?_; refine ⟨by kernel_rfl, ?_⟩; refine hw_cond _ rfl (fun r2 => ?_) (fun r2 => ?_)
    ·
     have h2 := r2
     have h2 := bif_t r1 h2
     have h2 := of_decide_eq_false (not_t h2)
     try simp only [ty] at h2
     refine hw_seq ?_; refine gy ?_; refine qy ?_; refine rg_nil ?_; refine hw_ret ?_; refine ⟨.inr rfl, ?_⟩
     exact f9 rfl rfl (⟨ccb (agrZ_f (i := i) (by omega) ((has_n (by omega)).1 (by assumption)) (by assumption)).symm, trivial⟩)
    ·
     have h2 := r2
     have h2 := bif_t r1 h2
     have h2 := of_decide_eq_true (not_f h2)
     try simp only [ty] at h2
     refine hw_skip ?_; refine gy ?_; (iterate 2 refine qy ?_); refine rg_nil ?_; refine ⟨i + 1, ?_, ?_, ?_⟩
     · exact ⟨by show i + 1 ≤ _; omega, all_succ hI (fun hh => by first | (exact absurd ((has_n (by omega)).2 hh) (by assumption)) | assumption)⟩
     · first | omega | (dsimp only; omega)
     · exact ⟨⟨zy, c9, c9, c9, c9, trivial⟩, trivial⟩
   ·
    have h1 := of_decide_eq_false r1
    try simp only [ty] at h1
    (iterate 9 refine k9 (gft r1) ?_); refine rq rfl rfl rfl rfl rfl ?_ (hp := r1); refine rg_nil ?_; refine ⟨by kernel_rfl, ?_⟩; refine hw_cond _ rfl (fun e => by cases e) (fun _ => ?_); refine hw_skip ?_; refine gy ?_
    (iterate 2 refine qy ?_); refine rg_nil ?_; refine ⟨i + 1, ?_, ?_, ?_⟩
    · exact ⟨by show i + 1 ≤ _; omega, all_succ hI (fun hh => by first | (exact absurd ((has_n (by omega)).2 hh) (by assumption)) | assumption)⟩
    · first | omega | (dsimp only; omega)
    · exact ⟨⟨zy, c9, c9, c9, c9, trivial⟩, trivial⟩
  ·
   have h0 := of_decide_eq_false r0
   try simp only [ty] at h0
   refine hw_exit ?_; refine ⟨(), ?_, ?_⟩
   · exact agrZ_t fun j hj => hI j (by omega)
   · exact ⟨trivial, trivial⟩
 · rintro _ hj
   refine hw_seq ?_; refine gy ?_; refine qy ?_; refine rg_nil ?_; refine hw_ret ?_; refine ⟨.inr rfl, ?_⟩
   exact f9 rfl rfl (⟨ccb hj.symm, trivial⟩)
end Go.Hx
end
section
namespace Go.Hx
def bErr (n : Int) (l m : List Fd) : Int := if vErr n l = 0 then (if 64 < m.length then 3 else if m.all (inU n) = true then 0 else 1) else vErr n l
section
variable {n : Int} {l m : List Fd}
theorem bErr_0 (h : ¬ vErr n l = 0) : vErr n l = bErr n l m := by unfold bErr; rw [if_neg h]
theorem bErr_1 (h : vErr n l = 0) (h2 : 64 < m.length) : 3 = bErr n l m := by unfold bErr; rw [if_pos h, if_pos h2]
theorem bErr_2 {i : Nat} (h : vErr n l = 0) (h2 : ¬ 64 < m.length) (hi : i < m.length) (hu : ¬ inU n (m.getD i default) = true) : 1 = bErr n l m := by
 unfold bErr
 rw [if_pos h, if_neg h2, if_neg (fun e => absurd (all_f (l := m) (p := inU n) hi (Bool.eq_false_iff.2 hu)) (by rw [e]; decide))]
theorem bErr_3 (h : vErr n l = 0) (h2 : ¬ 64 < m.length) (hu : ∀ j, j < m.length → inU n (m.getD j default) = true) : 0 = bErr n l m := by
 unfold bErr
 rw [if_pos h, if_neg h2, if_pos (all_t hu)]
theorem bErr_ok (h : bErr n l m = 0) : 0 ≤ n ∧ n ≤ 16 ∧ l.length ≤ 64 ∧ l.all (inU n) = true ∧ m.length ≤ 64 ∧ m.all (inU n) = true := by
 unfold bErr at h
 by_cases h1 : vErr n l = 0
 · rw [if_pos h1] at h
   obtain ⟨a, b, c, d⟩ := vErr_ok h1
   by_cases h2 : 64 < m.length
   · rw [if_pos h2] at h; omega
   · rw [if_neg h2] at h
     by_cases h3 : m.all (inU n) = true
     · exact ⟨a, b, c, d, by omega, h3⟩
     · rw [if_neg h3] at h; omega
 · rw [if_neg h1] at h; exact absurd h h1
end
theorem tokR_t {n : Int} {l : List Rw} {i : Nat} (h1 : ((l.getD i default).length : Int) = n) (h2 : (l.getD i default).any (fun x => decide (x < 0)) = false) (h3 : i = 0 ∨ ltZ (l.getD (i - 1) default) (l.getD i default) = true) : tokR n l i = true := by
 unfold tokR
 rw [decide_eq_true h1, h2]
 rcases h3 with h3 | h3
 · rw [decide_eq_true h3]; rfl
 · rw [h3]; simp
theorem tokR_f1 {n : Int} {l : List Rw} {i : Nat} (h : ¬ ((l.getD i default).length : Int) = n) : tokR n l i = false := by unfold tokR; rw [decide_eq_false h]; rfl
theorem tokR_f2 {n : Int} {l : List Rw} {i : Nat} (h : (l.getD i default).any (fun x => decide (x < 0)) = true) : tokR n l i = false := by unfold tokR; rw [h]; simp
theorem tokR_f3 {n : Int} {l : List Rw} {i : Nat} (h0 : 0 < i) (h : ¬ ltZ (l.getD (i - 1) default) (l.getD i default) = true) : tokR n l i = false := by
 unfold tokR
 rw [Bool.eq_false_iff.2 h, decide_eq_false (by omega : ¬ i = 0)]
 simp
theorem cmpZ_lt0 {a b : Rw} : cmpZ a b < 0 ↔ ltZ a b = true := by
 unfold cmpZ
 by_cases e : a = b
 · subst e
   rw [if_pos rfl, ltZ_irr]
   exact ⟨fun h => absurd h (by omega), fun h => by cases h⟩
 · rw [if_neg e]
   by_cases h : ltZ a b = true
   · rw [if_pos h]; exact ⟨fun _ => h, fun _ => by omega⟩
   · rw [if_neg h]; exact ⟨fun h => absurd h (by omega), fun h2 => absurd h2 h⟩
end Go.Hx
end
section
namespace Go.Hx
open Go.Proofs
set_option maxRecDepth 100000
theorem good91 : goodFn Tryz.prog 91 := ⟨Tryz.f91, Tryz.func91, by kernel_rfl, by kernel_rfl⟩
theorem cBValid (n : Int) (l m : List Fd) : HPure Tryz.prog 91 [pI n, pP (fdl l), pP (fdl m)] (prOf [pI (bErr n l m)]) := by
 refine hpure_of (nt := 34) Tryzok Tryz.func91 rfl rfl l9 ?_; refine hw_seq ?_
 refine hw_bt 2 rfl fun hn2 => ?_
 refine gy ?_; refine qy ?_; refine rg_nil ?_; (iterate 2 refine hw_seq ?_); refine gy ?_; (iterate 2 refine qy ?_); refine rc rfl rfl rfl rfl rfl rfl good82 (cValid n l) (CoL.refl _) rfl rfl ?_; refine qy ?_; refine rg_nil ?_
 refine hw_seq ?_; refine gy ?_; (iterate 2 refine qy ?_); refine rg_nil ?_; refine hw_cond _ rfl (fun r0 => ?_) (fun r0 => ?_)
 ·
  have h0 := r0
  have h0 := of_decide_eq_false (not_t h0)
  try simp only [ty] at h0
  refine hw_seq ?_; refine gy ?_; (iterate 2 refine qy ?_); refine rg_nil ?_; refine hw_ret ?_; refine ⟨.inr rfl, ?_⟩
  exact f9 rfl rfl (⟨cci (bErr_0 (by assumption)), trivial⟩)
 ·
  have h0 := r0
  have h0 := of_decide_eq_true (not_f h0)
  try simp only [ty] at h0
  have hv0 : vErr n l = 0 := by assumption
  obtain ⟨hn0, hn16, _, _⟩ := vErr_ok hv0
  refine hw_skip ?_; (iterate 2 refine hw_seq ?_); refine gy ?_; (iterate 3 refine qy ?_); refine rg_nil ?_; refine hw_cond _ rfl (fun r1 => ?_) (fun r1 => ?_)
  ·
   have h1 := of_decide_eq_true r1
   try simp only [ty] at h1
   refine hw_seq ?_; refine gy ?_; refine qy ?_; refine rg_nil ?_; refine hw_ret ?_; refine ⟨.inr rfl, ?_⟩
   exact f9 rfl rfl (⟨cci (bErr_1 hv0 (by omega)), trivial⟩)
  ·
   have h1 := of_decide_eq_false r1
   try simp only [ty] at h1
   refine hw_skip ?_; refine hw_joinK (ι := Unit) ⟨[], []⟩ ⟨trivial, trivial⟩ (fun _i => ⟨[], []⟩) (fun _i => ∀ j, j < m.length → inU n (m.getD j default) = true) ?_ ?_
   ·
    refine hw_seq ?_; refine gy ?_; (iterate 3 refine qy ?_); refine rg_nil ?_; refine hw_block ?_
    refine hw_loopK (ι := Nat) ⟨[(0, some _), (19, some _), (20, some _)], []⟩ ⟨⟨c9, c9, c9, trivial⟩, trivial⟩ (fun i => ⟨[(21, some (vI i))], []⟩) (fun i => i ≤ m.length ∧ (∀ j, j < i → inU n (m.getD j default) = true)) (fun i => m.length - i) (0) (⟨Nat.zero_le _, all_zero⟩) ⟨⟨zy, trivial⟩, trivial⟩ ?_
    rintro i ⟨hi, hI⟩
    refine hw_seq ?_; refine gy ?_; refine qy ?_; refine rg_nil ?_; refine hw_seq ?_; refine hw_cond _ rfl (fun r2 => ?_) (fun r2 => ?_)
    ·
     have h2 := of_decide_eq_true r2
     try simp only [ty] at h2
     refine hw_skip ?_; refine hw_seq ?_; refine hw_block ?_; refine hw_seq ?_; refine gy ?_; (iterate 2 refine qy ?_); refine m9 0 ?_; refine s9 ?_; refine rg_nil ?_; refine hw_seq ?_; refine gy ?_; (iterate 8 refine qy ?_)
     refine rg_nil ?_; refine hw_cond _ rfl (fun r3 => ?_) (fun r3 => ?_)
     ·
      have h3 := r3
      have h3 := of_decide_eq_false (not_t h3)
      try simp only [ty] at h3
      refine hw_seq ?_; refine gy ?_; refine qy ?_; refine rg_nil ?_; refine hw_ret ?_; refine ⟨.inr rfl, ?_⟩
      exact f9 rfl rfl (⟨cci (bErr_2 (i := i) hv0 (by omega) (by omega) (fun e => absurd (shr_iff.2 e) (by assumption))), trivial⟩)
     ·
      have h3 := r3
      have h3 := of_decide_eq_true (not_f h3)
      try simp only [ty] at h3
      refine hw_skip ?_; refine gy ?_; (iterate 2 refine qy ?_); refine rg_nil ?_; refine ⟨i + 1, ?_, ?_, ?_⟩
      · exact ⟨by show i + 1 ≤ _; omega, all_succ hI (shr_iff.1 (by assumption))⟩
      · first | omega | (dsimp only; omega)
      · exact ⟨⟨zy, c9, c9, c9, trivial⟩, trivial⟩
    ·
     have h2 := of_decide_eq_false r2
     try simp only [ty] at h2
     refine hw_exit ?_; refine ⟨(), ?_, ?_⟩
     · exact fun j hj => hI j (by omega)
     · exact ⟨trivial, trivial⟩
   · rintro _ hj
     refine hw_seq ?_; refine gy ?_; refine qy ?_; refine rg_nil ?_; refine hw_ret ?_; refine ⟨.inr rfl, ?_⟩
     exact f9 rfl rfl (⟨cci (bErr_3 hv0 (by omega) hj), trivial⟩)
end Go.Hx
end
section
namespace Go.Hx
open Go.Proofs
set_option maxRecDepth 100000
set_option maxHeartbeats 1000000
theorem pred_i (i : Nat) : ((i : Int) - 1).toNat = i - 1 := by omega
theorem good214 : goodFn Tryz.prog 214 := ⟨Tryz.f214, Tryz.func214, by kernel_rfl, by kernel_rfl⟩
theorem cTValid (n : Int) (l : List Rw) : HPure Tryz.prog 214 [pT n l] (prOf [pB (tok n l)]) := by
 refine hpure_of (nt := 50) Tryzok Tryz.func214 rfl rfl l9 ?_; refine hw_seq ?_; refine gy ?_; refine m9 0 ?_; refine qy ?_; refine rg_nil ?_; (iterate 2 refine hw_seq ?_); refine gy ?_; (iterate 4 refine qy ?_)
 refine rsplit rfl rfl (fun r0 => ?_) (fun r0 => ?_)
 ·
  have h0 := of_decide_eq_true r0
  try simp only [ty] at h0
  (iterate 3 refine k9 (gtf r0) ?_); refine rq rfl rfl rfl rfl rfl ?_ (hp := r0); refine qy ?_; (iterate 4 refine k9 rfl ?_); refine qy ?_; refine rg_nil ?_; refine hw_cond _ rfl (fun _ => ?_) (fun e => by cases e)
  refine hw_seq ?_; refine gy ?_; refine qy ?_; refine rg_nil ?_; refine hw_ret ?_; refine ⟨.inr rfl, ?_⟩
  exact f9 rfl rfl (⟨ccb (tok_f0 (by omega)).symm, trivial⟩)
 ·
  have h0 := of_decide_eq_false r0
  try simp only [ty] at h0
  (iterate 3 refine qy ?_ (hg := (gff r0))); (iterate 2 refine qy ?_); refine rsplit rfl rfl (fun r1 => ?_) (fun r1 => ?_)
  ·
   have h1 := r1
   have h1 := bif_f r0 h1
   have h1 := of_decide_eq_true h1
   try simp only [ty] at h1
   (iterate 4 refine k9 (gtf r1) ?_); refine rq rfl rfl rfl rfl rfl ?_ (hp := r1); refine rg_nil ?_; refine hw_cond _ rfl (fun _ => ?_) (fun e => by cases e); refine hw_seq ?_; refine gy ?_; refine qy ?_; refine rg_nil ?_
   refine hw_ret ?_; refine ⟨.inr rfl, ?_⟩
   exact f9 rfl rfl (⟨ccb (tok_f0 (by omega)).symm, trivial⟩)
  ·
   have h1 := r1
   have h1 := bif_f r0 h1
   have h1 := of_decide_eq_false h1
   try simp only [ty] at h1
   (iterate 4 refine qy ?_ (hg := (gff r1))); refine qy ?_; refine rg_nil ?_; refine hw_cond _ rfl (fun r2 => ?_) (fun r2 => ?_)
   ·
    have h2 := r2
    have h2 := bif_f r1 h2
    have h2 := of_decide_eq_true h2
    try simp only [ty] at h2
    refine hw_seq ?_; refine gy ?_; refine qy ?_; refine rg_nil ?_; refine hw_ret ?_; refine ⟨.inr rfl, ?_⟩
    exact f9 rfl rfl (⟨ccb (tok_f0 (by omega)).symm, trivial⟩)
   ·
    have h2 := r2
    have h2 := bif_f r1 h2
    have h2 := of_decide_eq_false h2
    try simp only [ty] at h2
    refine hw_skip ?_; (iterate 2 refine hw_seq ?_); refine gy ?_; (iterate 4 refine qy ?_); refine rg_nil ?_; refine hw_block ?_
    refine hw_loopK (ι := Nat) ⟨[(1, some _), (20, some _), (21, some _)], [(0, some _)]⟩ ⟨⟨c9, c9, c9, trivial⟩, ⟨u9, trivial⟩⟩ (fun i => ⟨[(22, some (vI i))], []⟩) (fun i => i ≤ l.length ∧ (∀ j, j < i → tokR n l j = true)) (fun i => l.length - i) (0) (⟨Nat.zero_le _, all_zero⟩) ⟨⟨zy, trivial⟩, trivial⟩ ?_
    rintro i ⟨hi, hI⟩
    refine hw_seq ?_; refine gy ?_; refine qy ?_; refine rg_nil ?_; refine hw_seq ?_; refine hw_cond _ rfl (fun r3 => ?_) (fun r3 => ?_)
    ·
     have h3 := of_decide_eq_true r3
     try simp only [ty] at h3
     refine hw_skip ?_; refine hw_seq ?_; refine hw_block ?_; refine hw_seq ?_; refine gy ?_; (iterate 5 refine qy ?_); refine rg_nil ?_; (iterate 2 refine hw_seq ?_); refine gy ?_; (iterate 6 refine qy ?_)
     refine rsplit rfl rfl (fun r4 => ?_) (fun r4 => ?_)
     ·
      have h4 := r4
      have h4 := of_decide_eq_false (not_t h4)
      try simp only [ty] at h4
      (iterate 2 refine k9 (gtf r4) ?_); refine rq rfl rfl rfl rfl rfl ?_ (hp := r4); refine rg_nil ?_; refine hw_cond _ rfl (fun _ => ?_) (fun e => by cases e); refine hw_seq ?_; refine gy ?_; refine qy ?_; refine rg_nil ?_
      refine hw_ret ?_; refine ⟨.inr rfl, ?_⟩
      exact f9 rfl rfl (⟨ccb (tok_f (i := i) (by omega) (by first | exact tokR_f1 (by assumption) | exact tokR_f2 (by assumption) | exact tokR_f3 (by omega) (by simp_all [pred_i]))).symm, trivial⟩)
     ·
      have h4 := r4
      have h4 := of_decide_eq_true (not_f h4)
      try simp only [ty] at h4
      refine qy ?_ (hg := (gff r4)); refine rc rfl rfl rfl rfl rfl rfl good232 (cCoZ (l.getD i default) 233 0 (fun _ => .any) (fun x => decide (x < 0)) good233 (fun x => cNeg x)) (CoL.refl _) rfl (gff r4) ?_; refine qy ?_
      refine rg_nil ?_; refine hw_cond _ rfl (fun r5 => ?_) (fun r5 => ?_)
      ·
       have h5 := r5
       have h5 := bif_f r4 h5
       refine hw_seq ?_; refine gy ?_; refine qy ?_; refine rg_nil ?_; refine hw_ret ?_; refine ⟨.inr rfl, ?_⟩
       exact f9 rfl rfl (⟨ccb (tok_f (i := i) (by omega) (by first | exact tokR_f1 (by assumption) | exact tokR_f2 (by assumption) | exact tokR_f3 (by omega) (by simp_all [pred_i]))).symm, trivial⟩)
      ·
       have h5 := r5
       have h5 := bif_f r4 h5
       refine hw_skip ?_; refine hw_seq ?_; refine gy ?_; (iterate 3 refine qy ?_); refine rsplit rfl rfl (fun r6 => ?_) (fun r6 => ?_)
       ·
        have h6 := of_decide_eq_true r6
        try simp only [ty] at h6
        (iterate 7 refine qy ?_ (hg := (gtt r6))); refine rc rfl rfl rfl rfl rfl rfl good212 (cCmpZ (l.getD ((i : Int) - 1).toNat default) (l.getD i default)) (CoL.refl _) rfl (gtt r6) ?_; refine qy ?_ (hg := (gtt r6))
        refine qy ?_; refine rg_nil ?_; refine hw_cond _ rfl (fun r7 => ?_) (fun r7 => ?_)
        ·
         have h7 := r7
         have h7 := bif_t r6 h7
         have h7 := of_decide_eq_true h7
         try simp only [ty] at h7
         refine hw_seq ?_; refine gy ?_; refine qy ?_; refine rg_nil ?_; refine hw_ret ?_; refine ⟨.inr rfl, ?_⟩
         exact f9 rfl rfl (⟨ccb (tok_f (i := i) (by omega) (tokR_f3 (by omega) fun e => absurd (cmpZ_lt0.2 e) (by simp only [pred_i] at *; omega))).symm, trivial⟩)
        ·
         have h7 := r7
         have h7 := bif_t r6 h7
         have h7 := of_decide_eq_false h7
         try simp only [ty] at h7
         refine hw_skip ?_; refine gy ?_; (iterate 2 refine qy ?_); refine rg_nil ?_; refine ⟨i + 1, ?_, ?_, ?_⟩
         · exact ⟨by show i + 1 ≤ _; omega, all_succ hI (tokR_t (by assumption) (by assumption) (by first | (exact .inl (by omega)) | (exact .inr (cmpZ_lt0.1 (by simp only [pred_i] at *; omega)))))⟩
         · first | omega | (dsimp only; omega)
         · exact ⟨⟨zy, c9, c9, c9, trivial⟩, ⟨u9, trivial⟩⟩
       ·
        have h6 := of_decide_eq_false r6
        try simp only [ty] at h6
        (iterate 9 refine k9 (gft r6) ?_); refine rq rfl rfl rfl rfl rfl ?_ (hp := r6); refine rg_nil ?_; refine hw_cond _ rfl (fun e => by cases e) (fun _ => ?_); refine hw_skip ?_; refine gy ?_; (iterate 2 refine qy ?_)
        refine rg_nil ?_; refine ⟨i + 1, ?_, ?_, ?_⟩
        · exact ⟨by show i + 1 ≤ _; omega, all_succ hI (tokR_t (by assumption) (by assumption) (by first | (exact .inl (by omega)) | (exact .inr (cmpZ_lt0.1 (by simp only [pred_i] at *; omega)))))⟩
        · first | omega | (dsimp only; omega)
        · exact ⟨⟨zy, c9, c9, c9, trivial⟩, ⟨u9, trivial⟩⟩
    ·
     have h3 := of_decide_eq_false r3
     try simp only [ty] at h3
     refine hw_exit ?_; refine hw_seq ?_; refine gy ?_; refine qy ?_; refine rg_nil ?_; refine hw_ret ?_; refine ⟨.inr rfl, ?_⟩
     exact f9 rfl rfl (⟨ccb (tok_t (by omega) (by omega) (by omega) fun j hj => hI j (by omega)).symm, trivial⟩)
theorem good180 : goodFn Tryz.prog 180 := ⟨Tryz.f180, Tryz.func180, by kernel_rfl, by kernel_rfl⟩
theorem cChecked (n : Int) (l : List Rw) (p m : List Fd) : HPure Tryz.prog 180 [pT n l, pP (fdl p), pP (fdl m)] (prOf [pI (if tok n l = true then bErr n p m else 1)]) := by
 refine hpure_of (nt := 15) Tryzok Tryz.func180 rfl rfl l9 ?_; refine hw_seq ?_; refine gy ?_; refine m9 0 ?_; refine qy ?_; refine rg_nil ?_; (iterate 2 refine hw_seq ?_); refine gy ?_; refine qy ?_
 refine rc rfl rfl rfl rfl rfl rfl good214 (cTValid n l) (CoL.refl _) rfl rfl ?_; refine qy ?_; refine rg_nil ?_; refine hw_cond _ rfl (fun r0 => ?_) (fun r0 => ?_)
 ·
  have h0 := r0
  have h0 := not_t h0
  refine hw_seq ?_; refine gy ?_; refine qy ?_; refine rg_nil ?_; refine hw_ret ?_; refine ⟨.inr rfl, ?_⟩
  exact f9 rfl rfl (⟨cci (if_neg (by simp_all)).symm, trivial⟩)
 ·
  have h0 := r0
  have h0 := not_f h0
  refine hw_skip ?_; refine hw_seq ?_; refine gy ?_; (iterate 4 refine qy ?_); refine rc rfl rfl rfl rfl rfl rfl good91 (cBValid n p m) (CoL.refl _) rfl rfl ?_; refine qy ?_; refine rg_nil ?_; refine hw_ret ?_
  refine ⟨.inr rfl, ?_⟩
  exact f9 rfl rfl (⟨cci (if_pos (by simp_all)).symm, trivial⟩)
end Go.Hx
end
section
namespace Go.Hx
def mixT (a b : Rw) (s : AS) (i : Nat) : Rw := (List.range b.length).map fun (j : Nat) => if j < i ∧ hasI s (j : Int) = true then a.getD j default else b.getD j default
theorem mixT_len (a b : Rw) (s : AS) (i : Nat) : (mixT a b s i).length = b.length := by unfold mixT; simp
theorem mixT_at {a b : Rw} {s : AS} {i k : Nat} (hk : k < b.length) : (mixT a b s i).getD k default = if k < i ∧ hasI s (k : Int) = true then a.getD k default else b.getD k default := by
 unfold mixT
 rw [List.getD_eq_getElem?_getD, List.getElem?_map, List.getElem?_range hk]
 rfl
theorem mixT_zero (a b : Rw) (s : AS) : b = mixT a b s 0 := list_eq (mixT_len a b s 0).symm fun j hj => by
 rw [mixT_at hj, if_neg (by omega)]
theorem mixT_end (a b : Rw) (s : AS) : mixT a b s b.length = mixZ a b s := by
 unfold mixT mixZ
 refine List.map_congr_left fun k hk => ?_
 have := List.mem_range.1 hk
 by_cases h : hasI s (k : Int) = true
 · rw [if_pos ⟨this, h⟩, if_pos h]
 · rw [if_neg (fun e => h e.2), if_neg h]
theorem mixT_f {a b : Rw} {s : AS} {i : Nat} (h : ¬ hasI s (i : Int) = true) : mixT a b s i = mixT a b s (i + 1) := by
 unfold mixT
 refine List.map_congr_left fun k hk => ?_
 by_cases h2 : k < i ∧ hasI s (k : Int) = true
 · rw [if_pos h2, if_pos ⟨by omega, h2.2⟩]
 · rw [if_neg h2, if_neg fun e => h2 ⟨by rcases Nat.lt_or_eq_of_le (Nat.le_of_lt_succ e.1) with h3 | h3
                                         · exact h3
                                         · subst h3; exact absurd e.2 h, e.2⟩]
theorem mixT_t {a b : Rw} {s : AS} {i : Nat} (hi : i < b.length) (h : hasI s (i : Int) = true) : (mixT a b s i).set i (a.getD i default) = mixT a b s (i + 1) := by
 refine list_eq (by rw [List.length_set, mixT_len, mixT_len]) fun j hj => ?_
 rw [List.length_set, mixT_len] at hj
 rw [mixT_at hj]
 by_cases e : j = i
 · subst e
   rw [getD_set_eq (by rw [mixT_len]; exact hj), if_pos ⟨by omega, h⟩]
 · rw [getD_set_ne' e, mixT_at hj]
   by_cases h2 : j < i ∧ hasI s (j : Int) = true
   · rw [if_pos h2, if_pos ⟨by omega, h2.2⟩]
   · rw [if_neg h2, if_neg fun e2 => h2 ⟨by omega, e2.2⟩]
theorem mixZ_len (a b : Rw) (s : AS) : (mixZ a b s).length = b.length := by unfold mixZ; simp
theorem co_mix_t {a b : Rw} {s : AS} {i n : Nat} {k : Nat} (hi : i < b.length) (h : hasI s (i : Int) = true) (hn : n = b.length := by rfl) (hk : k = i := by rfl) :
 CoO (.arr true 1 3 n (setEl (lf zC (mixT a b s i)) k 0 [.raw (.int .i64 (a.getD i default))])) (.arr true 1 3 n (lf zC (mixT a b s (i + 1)))) := by
 rw [← mixT_t hi h]
 exact co_set1 (fun h => h) (hn.trans (mixT_len a b s i).symm) hk (by rw [mixT_len]; exact hi) rfl
theorem co_mix_f {a b : Rw} {s : AS} {i n : Nat} (h : ¬ hasI s (i : Int) = true) : CoO (.arr true 1 3 n (lf zC (mixT a b s i))) (.arr true 1 3 n (lf zC (mixT a b s (i + 1)))) := by
 rw [← mixT_f h]
 exact CoO.refl _
theorem co_zl {n : Nat} {r : Rw} (h : r.length = n) : CoC (.one (.sl n 1 false (lf zC r))) (pZ r) := by subst h; exact CoC.refl _
end Go.Hx
end
section
namespace Go.Hx
open Go.Proofs
set_option maxRecDepth 100000
theorem good215 : goodFn Tryz.prog 215 := ⟨Tryz.f215, Tryz.func215, by kernel_rfl, by kernel_rfl⟩
theorem clone17 (n : Nat) (c : Bool) (f : Nat → Nat → PV) (hn : n ≤ 17592186044416) :
 HFun Tryz.prog 215 [.one (.p (.sl n 1 c f))] [] (.v (.one (.ref 0 n))) [(0, .arr true 1 3 n f)] [] := by
 refine hfun_of (nt := 8) Tryzok Tryz.func215 rfl rfl l9 rfl ?_; refine hw_seq ?_; refine gy ?_; refine rg_quiet true rfl rfl rfl rfl rfl trivial ?_; refine rg_nil ?_
 refine hw_join (ι := Bool) (fun c => ⟨[(0, some (oneP (.sl n 1 c f)))], []⟩) (fun _ => True) ?_ fun c _ => ?_
 · rcases Nat.eq_zero_or_pos n with hz | h0
   · subst hz
     refine hw_exact' 0 rfl fun ad cap hcap => ?_
     refine hw_seq ?_; refine gy ?_; (iterate 2 refine rg_quiet true rfl rfl rfl rfl rfl trivial ?_); refine rg_nil ?_; refine hw_cond ad.isNone rfl (fun hc => ?_) (fun hc => ?_)
     · refine hw_seq ?_
       refine gy ?_; refine rg_quiet true rfl rfl rfl rfl rfl trivial ?_; refine rg_nil ?_
       refine hw_adopt 2 0 true 1 3 f (by decide) rfl (CoP.sl rfl (.inr rfl) (fun h => h) fun i j hi _ => absurd hi (Nat.not_lt_zero i)) (.inr rfl) rfl ?_; refine hw_ret ?_; refine ⟨.inr rfl, ?_⟩
       exact ⟨_, _, rfl, trivial, CoR.refl _, ⟨u9, trivial⟩⟩
     · refine hw_skip ?_
       exact ⟨false, trivial, ⟨⟨_, rfl, CoP.raw_sl hcap⟩, trivial⟩, trivial⟩
   · refine hw_seq ?_
     refine gy ?_; refine rg_quiet true rfl rfl rfl rfl rfl trivial ?_; refine rg_quiet true rfl rfl rfl rfl rfl h0 ?_; refine rg_nil ?_; refine hw_cond false rfl (fun hc => by cases hc) (fun hc => ?_); refine hw_skip ?_
     exact ⟨c, trivial, ⟨c9, trivial⟩, trivial⟩
 · refine hw_seq ?_
   refine gy ?_; refine rg_make 0 rfl rfl rfl rfl rfl rfl trivial ?_; refine rg_quiet true rfl rfl rfl rfl rfl trivial ?_
   refine rg_app 0 true rfl rfl rfl rfl rfl rfl ⟨trivial, rfl, rfl, rfl, .inl rfl, by show 0 + n ≤ 9223372036854775807; omega, by show (0 + n) * 8 ≤ 140737488355328; omega, fun _ => .inl rfl⟩ ?_
   refine rg_quiet true rfl rfl rfl rfl rfl trivial ?_; refine rg_nil ?_; refine hw_ret ?_; refine ⟨.inr rfl, ?_⟩
   refine ⟨_, _, rfl, trivial, CoR.of_eq (by show HR.v (.one (.ref 0 (0 + n))) = _; rw [Nat.zero_add]), ⟨⟨_, rfl, ?_⟩, trivial⟩⟩
   exact ⟨fun h => h, rfl, rfl, (Nat.zero_add n).symm, fun i j _ _ => CoP.of_eq (by simp [appF])⟩
theorem cloneP17 (n : Nat) (c : Bool) (f : Nat → Nat → PV) (hn : n ≤ 17592186044416) : HPure Tryz.prog 215 [.one (.sl n 1 c f)] (.v (.one (.sl n 1 false f))) :=
 HFun.pure (args := [.one (.sl n 1 c f)]) (l := [.one (.ref 0 n)]) (clone17 n c f hn) rfl ⟨rfl, trivial⟩
theorem good181 : goodFn Tryz.prog 181 := ⟨Tryz.f181, Tryz.func181, by kernel_rfl, by kernel_rfl⟩
theorem cCopied (n : Int) (l : List Rw) (hl : ∀ i, i < l.length → (l.getD i default).length ≤ 17592186044416) (hl2 : l.length ≤ 5864062014805) : HFun Tryz.prog 181 [.agg [.p (.raw (.int .i64 n)), .p (rl l)]] [] (.v (.agg [.p (.raw (.int .i64 n)), .ref 901 l.length])) [(901, .arr true 1 121 l.length (lf rC l))] [] := by
 refine hfun_of (nt := 25) Tryzok Tryz.func181 rfl rfl l9 rfl ?_; refine hw_seq ?_; refine gy ?_; refine m9 0 ?_; refine m9 1 ?_; refine rg_nil ?_; refine hw_seq ?_; refine gy ?_; (iterate 3 refine qy ?_); refine m9 2 ?_
 refine s9 ?_; refine rg_nil ?_; refine hw_adopt_cell 2 1 901 true 1 121 (lf rC l) (by decide) rfl rfl (CoP.sl rfl (.inr rfl) (fun h => h) (fun i j hi _ => absurd hi (Nat.not_lt_zero i))) (.inr rfl) rfl rfl ?_
 (iterate 2 refine hw_seq ?_); refine gy ?_; (iterate 4 refine qy ?_); refine rg_nil ?_; refine hw_block ?_
 refine hw_loopK (ι := Nat) ⟨[(2, some _), (3, some _), (10, some _), (11, some _)], [(1, some _)]⟩ ⟨⟨c9, c9, c9, c9, trivial⟩, ⟨u9, trivial⟩⟩ (fun i => ⟨[(12, some (vI i))], [(2, some (.box [.p (.raw (.int .i64 n)), .ref 901 i])), (901, some (.arr true 1 121 i (lf rC l)))]⟩) (fun i => i ≤ l.length) (fun i => l.length - i) (0) (Nat.zero_le _) ⟨⟨zy, trivial⟩, ⟨u9, u9, trivial⟩⟩ ?_
 rintro i hi
 refine hw_seq ?_; refine gy ?_; refine qy ?_; refine rg_nil ?_; refine hw_seq ?_; refine hw_cond _ rfl (fun r0 => ?_) (fun r0 => ?_)
 ·
  have h0 := of_decide_eq_true r0
  try simp only [ty] at h0
  refine hw_skip ?_; refine hw_seq ?_; refine hw_block ?_; refine hw_seq ?_; refine gy ?_; (iterate 3 refine qy ?_); refine rg_nil ?_; refine hw_draw (E := TryzE) Tryzok Tryzmixed [0, 1, 2, 3, 4, 5, 6, 7] ?_
  (iterate 3 refine qy ?_); refine rc rfl rfl rfl rfl rfl rfl good215 (cloneP17 (l.getD i default).length false (lf zC (l.getD i default)) (hl i (by omega))) (CoL.refl _) rfl rfl ?_; refine m9 3 ?_
  refine ra 4 true rfl rfl rfl rfl rfl rfl ?_; refine qy ?_; refine s9 ?_; refine rg_nil ?_; refine ⟨by kernel_rfl, ?_⟩; refine gy ?_; (iterate 2 refine qy ?_); refine rg_nil ?_; refine ⟨i + 1, ?_, ?_, ?_⟩
  · show i + 1 ≤ _; omega
  · first | omega | (dsimp only; omega)
  · exact ⟨⟨zy, c9, c9, c9, c9, trivial⟩, ⟨u9, ⟨_, rfl, (co_push (fun h => h) (fun j hj => by obtain rfl : j = 0 := (by omega); exact CoP.refl _))⟩, u9, trivial⟩⟩
 ·
  have h0 := of_decide_eq_false r0
  try simp only [ty] at h0
  obtain rfl : i = l.length := by omega
  refine hw_exit ?_; refine hw_seq ?_; refine gy ?_; refine qy ?_; refine s9 ?_; refine rg_nil ?_; refine hw_ret ?_; refine ⟨.inr rfl, ?_⟩
  exact ⟨_, _, rfl, (by (repeat' apply And.intro) <;> first | trivial | exact Nat.le_of_ble_eq_true rfl), CoR.refl _, ⟨u9, trivial⟩⟩
theorem cCopiedP (n : Int) (l : List Rw) (hl : ∀ i, i < l.length → (l.getD i default).length ≤ 17592186044416) (hl2 : l.length ≤ 5864062014805) : HPure Tryz.prog 181 [pT n l] (prOf [pT n l]) :=
 HFun.pure (args := [pT n l]) (l := [.agg [.p (.raw (.int .i64 n)), .ref 901 l.length]]) (cCopied n l hl hl2) rfl ⟨⟨trivial, rfl, trivial⟩, trivial⟩
theorem good217 : goodFn Tryz.prog 217 := ⟨Tryz.f217, Tryz.func217, by kernel_rfl, by kernel_rfl⟩
theorem cMixed (a b : Rw) (s : AS) (h : a.length = b.length) (h16 : b.length ≤ 16) : HPure Tryz.prog 217 [pZ a, pZ b, pA s] (prOf [pZ (mixZ a b s)]) := by
 refine hpure_of (nt := 30) Tryzok Tryz.func217 rfl rfl l9 ?_; refine hw_seq ?_; refine gy ?_; refine qy ?_; refine rg_nil ?_; refine hw_seq ?_; refine gy ?_; refine qy ?_
 refine rg_fcall rfl rfl rfl rfl rfl rfl good215 (clone17 b.length false (lf zC b) (by omega)) (CoHCL.refl _) trivial rfl rfl ?_; refine qy ?_; refine rg_nil ?_; (iterate 2 refine hw_seq ?_); refine gy ?_; (iterate 3 refine qy ?_)
 refine rg_nil ?_; refine hw_block ?_
 refine hw_loopK (ι := Nat) ⟨[(0, some _), (2, some _), (7, some _), (12, some _)], []⟩ ⟨⟨c9, c9, c9, c9, trivial⟩, trivial⟩ (fun i => ⟨[(13, some (vI i))], [(0, some (.arr true 1 3 b.length (lf zC (mixT a b s i))))]⟩) (fun i => i ≤ b.length) (fun i => b.length - i) (0) (Nat.zero_le _) ⟨⟨zy, trivial⟩, ⟨⟨_, rfl, (CoO.of_eq (by rw [← mixT_zero]))⟩, trivial⟩⟩ ?_
 rintro i hi
 refine hw_seq ?_; refine gy ?_; refine qy ?_; refine rg_nil ?_; refine hw_seq ?_; refine hw_cond _ rfl (fun r0 => ?_) (fun r0 => ?_)
 ·
  have h0 := of_decide_eq_true r0
  try simp only [ty] at h0
  refine hw_skip ?_; refine hw_seq ?_; refine hw_block ?_; refine hw_seq ?_; refine gy ?_; (iterate 2 refine qy ?_); refine rg_nil ?_; refine hw_seq ?_; refine gy ?_; (iterate 5 refine qy ?_); refine rg_nil ?_
  refine hw_cond _ rfl (fun r1 => ?_) (fun r1 => ?_)
  ·
   have h1 := of_decide_eq_true r1
   try simp only [ty] at h1
   refine gy ?_; (iterate 7 refine qy ?_); refine s9 ?_; refine rg_nil ?_; refine gy ?_; (iterate 2 refine qy ?_); refine rg_nil ?_; refine ⟨i + 1, ?_, ?_, ?_⟩
   · show i + 1 ≤ _; omega
   · first | omega | (dsimp only; omega)
   · exact ⟨⟨zy, c9, c9, c9, c9, trivial⟩, ⟨⟨_, rfl, (by first | exact co_mix_t (by omega) ((has_n (by omega)).1 (by assumption)) | exact co_mix_f (fun e => absurd ((has_n (by omega)).2 e) (by assumption)))⟩, trivial⟩⟩
  ·
   have h1 := of_decide_eq_false r1
   try simp only [ty] at h1
   refine hw_skip ?_; refine gy ?_; (iterate 2 refine qy ?_); refine rg_nil ?_; refine ⟨i + 1, ?_, ?_, ?_⟩
   · show i + 1 ≤ _; omega
   · first | omega | (dsimp only; omega)
   · exact ⟨⟨zy, c9, c9, c9, c9, trivial⟩, ⟨⟨_, rfl, (by first | exact co_mix_t (by omega) ((has_n (by omega)).1 (by assumption)) | exact co_mix_f (fun e => absurd ((has_n (by omega)).2 e) (by assumption)))⟩, trivial⟩⟩
 ·
  have h0 := of_decide_eq_false r0
  try simp only [ty] at h0
  obtain rfl : i = b.length := by omega
  refine hw_exit ?_; refine hw_seq ?_; refine hw_freeze 7 rfl rfl rfl ?_; refine gy ?_; (iterate 2 refine qy ?_); refine rg_nil ?_; refine hw_ret ?_; refine ⟨.inr rfl, ?_⟩
  exact f9 rfl rfl (⟨by rw [mixT_end]; exact co_zl (mixZ_len a b s), trivial⟩)
end Go.Hx
end
