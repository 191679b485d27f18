/- A part of the proof: lemmas for the theorem of this claim, merged by a program of ours out of Ls5, W0, W1, Ls6, W2, W2a, Rbm, Ls7, W4a. -/
import Derived.Test.YtidophngianjiaaGreatDoorP19
import Derived.Test.YtidophngianjiaaGreatDoorP23
import Derived.Test.YtidophngianjiaaGreatDoorP25
import Derived.Test.YtidophngianjiaaGreatDoorP28
import Derived.Test.YtidophngianjiaaGreatDoorP29
import Derived.Test.YtidophngianjiaaGreatDoorP30
import Derived.Test.YtidophngianjiaaGreatDoorP35
import Derived.Test.YtidophngianjiaaGreatDoorP36
set_option linter.all false
section
namespace Go.Hx
abbrev tbC (a : Int × List Rw) : Nat → PV := fun j => [.raw (.int .i64 a.1), rl a.2].getD j .any
def lcR (n : Int) (ps : List AS) (p m : List Fd) : (Int × List Rw) × List St × (Int × List Rw) × Int :=
 if lvE n ps = 0 then (if bErr n p m = 0 then ((n, canon (stRows n ps)), (lsT n ps p m).1, (lsT n ps p m).2.1, (lsT n ps p m).2.2) else ((0, []), [], (0, []), bErr n p m)) else ((0, []), [], (0, []), lvE n ps)
section
variable {n : Int} {ps : List AS} {p m : List Fd} {l lend : List Rw}
theorem lcR_0 (h : ¬ lvE n ps = 0) : lcR n ps p m = ((0, []), [], (0, []), lvE n ps) := if_neg h
theorem lcR_1 (h : lvE n ps = 0) (h2 : ¬ bErr n p m = 0) : lcR n ps p m = ((0, []), [], (0, []), bErr n p m) := (if_pos h).trans (if_neg h2)
theorem lcR_2 (h : lvE n ps = 0) (h2 : bErr n p m = 0) : lcR n ps p m = ((n, canon (stRows n ps)), (lsT n ps p m).1, (lsT n ps p m).2.1, (lsT n ps p m).2.2) := (if_pos h).trans (if_pos h2)
theorem lcR_code : (lcR n ps p m).2.2.2 = lsC n ps p m := by
 unfold lcR lsC
 split
 · split <;> rfl
 · rfl
theorem is_t (h : (lcR n ps p m).2.2.2 = 0) : ((lcR n ps p m).2.2.1.2.any fun r => decide (r = firstZ n)) = lsB n ps p m := by
 have hc := h
 rw [lcR_code] at hc
 obtain ⟨h1, h2⟩ := lsC_ok hc
 unfold lsB
 rw [decide_eq_true hc, Bool.true_and, lcR_2 h1 h2]
theorem is_f (h : ¬ (lcR n ps p m).2.2.2 = 0) : lsB n ps p m = false := by
 rw [lcR_code] at h
 unfold lsB
 rw [decide_eq_false h]
 rfl
theorem is_b : (bif decide ((lcR n ps p m).2.2.2 = 0) then ((lcR n ps p m).2.2.1.2.any fun r => decide (r = firstZ n)) else false) = lsB n ps p m := by
 by_cases h : (lcR n ps p m).2.2.2 = 0
 · rw [decide_eq_true h, cond_true, is_t h]
 · rw [decide_eq_false h, cond_false, is_f h]
theorem is_n (h : lcR n ps p m = lcR n ps p m) (h2 : (lcR n ps p m).2.2.2 = 0) : 0 ≤ n ∧ n ≤ 8 := by
 rw [lcR_code] at h2
 obtain ⟨h1, _⟩ := lsC_ok h2
 exact ⟨(lvE_ok h1).1, (lvE_ok h1).2.1⟩
def tabsL (n : Int) (p m : List Fd) (l : List Rw) (sts : List St) : List (Int × List Rw) := (trL n p m l sts).map fun t => (n, t)
def rcR (n : Int) (ps : List AS) (p m : List Fd) : List St × List (Int × List Rw) × Int :=
 if lsC n ps p m = 0 then ((lsT n ps p m).1, tabsL n p m (canon (stRows n ps)) (lsT n ps p m).1, 0) else ([], [], lsC n ps p m)
def fstB (n : Int) (t : List Rw) : Bool := t.any fun r => decide (r = firstZ n)
def prX (n : Int) (ps : List AS) (p m : List Fd) : Int := idx (fun a : Int × List Rw => fstB n a.2) (rcR n ps p m).2.1
def prC (n : Int) (ps : List AS) (p m : List Fd) : Int := if (rcR n ps p m).2.2 = 0 then (if prX n ps p m < 0 then 11 else 0) else (rcR n ps p m).2.2
def prS (n : Int) (ps : List AS) (p m : List Fd) : List St := if (rcR n ps p m).2.2 = 0 then (if prX n ps p m < 0 then [] else (rcR n ps p m).1.take (prX n ps p m).toNat) else []
end
end Go.Hx
end
section
namespace Go.Hx
open Go.Proofs
theorem cStartL (n : Int) (ps : List AS) (h : lvE n ps = 0) : HPure Tryz.prog 148 [pI n, pP (asl ps)] (prOf [pT n (canon (stRows n ps)), pI 0]) := by
 have := cStart n ps
 rw [lv_start h] at this
 exact this
theorem cStepsL (n : Int) (ps : List AS) (p m : List Fd) : HPure Tryz.prog 149 [pT n (canon (stRows n ps)), pP (fdl p), pP (fdl m)] (prOf [pP (stl (lsT n ps p m).1), pT (lsT n ps p m).2.1.1 (lsT n ps p m).2.1.2, pI (lsT n ps p m).2.2]) :=
 cSteps FU n (canon (stRows n ps)) p m (fun h => mu_all h) (by decide)
end Go.Hx
end
section
namespace Go.Hx
open Go.Proofs
set_option maxRecDepth 100000
set_option maxHeartbeats 1000000
theorem good131 : goodFn Tryz.prog 131 := ⟨Tryz.f131, Tryz.func131, by kernel_rfl, by kernel_rfl⟩
theorem cUnion (ps : List AS) : HPure Tryz.prog 131 [pP (asl ps)] (prOf [pA (orL ps)]) := by
 refine hpure_of (nt := 17) Tryzok Tryz.func131 rfl rfl l9 ?_; refine hw_seq ?_; refine gy ?_; refine qy ?_; refine rg_nil ?_; refine hw_seq ?_; refine gy ?_; refine qy ?_; refine rg_nil ?_; (iterate 2 refine hw_seq ?_)
 refine hw_bt 0 rfl fun hn => ?_
 refine gy ?_; (iterate 3 refine qy ?_); refine rg_nil ?_; refine hw_block ?_
 refine hw_loopK (ι := Nat) ⟨[(6, some _), (7, some _)], []⟩ ⟨⟨c9, c9, trivial⟩, trivial⟩ (fun i => ⟨[(3, some (vA (orL (ps.take i)))), (8, some (vI i))], []⟩) (fun i => i ≤ ps.length) (fun i => ps.length - i) (0) (Nat.zero_le _) ⟨⟨⟨_, rfl, (CoR.refl _)⟩, zy, trivial⟩, trivial⟩ ?_
 rintro i hi
 refine hw_seq ?_; refine gy ?_; refine qy ?_; refine rg_nil ?_; refine hw_seq ?_; refine hw_cond _ rfl (fun r0 => ?_) (fun r0 => ?_)
 ·
  have h0 := of_decide_eq_true r0
  try simp only [ty] at h0
  refine hw_skip ?_; refine hw_seq ?_; refine hw_block ?_; refine hw_seq ?_; refine gy ?_; (iterate 3 refine qy ?_); refine rg_nil ?_; refine gy ?_; (iterate 4 refine qy ?_); refine rg_nil ?_; refine gy ?_
  (iterate 2 refine qy ?_); refine rg_nil ?_; refine ⟨i + 1, ?_, ?_, ?_⟩
  · show i + 1 ≤ _; omega
  · first | omega | (dsimp only; omega)
  · exact ⟨⟨⟨_, rfl, (cor_i (by rw [bOr, orL_take (by omega)]; rfl))⟩, zy, c9, c9, trivial⟩, trivial⟩
 ·
  have h0 := of_decide_eq_false r0
  try simp only [ty] at h0
  obtain rfl : i = ps.length := by omega
  refine hw_exit ?_; refine hw_seq ?_; refine gy ?_; (iterate 2 refine qy ?_); refine rg_nil ?_; refine hw_ret ?_; refine ⟨.inr rfl, ?_⟩
  exact f9 rfl rfl (⟨cci (by rw [List.take_length]), trivial⟩)
theorem good83 : goodFn Tryz.prog 83 := ⟨Tryz.f83, Tryz.func83, by kernel_rfl, by kernel_rfl⟩
theorem cLValid (n : Int) (ps : List AS) : HPure Tryz.prog 83 [pI n, pP (asl ps)] (prOf [pI (lvE n ps)]) := by
 refine hpure_of (nt := 28) Tryzok Tryz.func83 rfl rfl l9 ?_; refine hw_seq ?_; refine gy ?_; refine qy ?_; refine rg_nil ?_; refine hw_seq ?_; refine hw_block ?_; refine hw_seq ?_; refine gy ?_; (iterate 3 refine qy ?_)
 refine rsplit rfl rfl (fun r0 => ?_) (fun r0 => ?_)
 ·
  have h0 := of_decide_eq_true r0
  try simp only [ty] at h0
  (iterate 2 refine k9 (gtf r0) ?_); refine rq rfl rfl rfl rfl rfl ?_ (hp := r0); refine qy ?_; refine rg_nil ?_; refine hw_cond _ rfl (fun _ => ?_) (fun e => by cases e); refine hw_seq ?_; refine gy ?_; refine qy ?_
  refine rg_nil ?_; refine hw_ret ?_; refine ⟨.inr rfl, ?_⟩
  exact f9 rfl rfl (⟨cci (lvE_0 (by omega)).symm, trivial⟩)
 ·
  have h0 := of_decide_eq_false r0
  try simp only [ty] at h0
  (iterate 2 refine qy ?_ (hg := (gff r0))); (iterate 2 refine qy ?_); refine rg_nil ?_; refine hw_cond _ rfl (fun r1 => ?_) (fun r1 => ?_)
  ·
   have h1 := r1
   have h1 := bif_f r0 h1
   have h1 := of_decide_eq_true h1
   try simp only [ty] at h1
   refine hw_seq ?_; refine gy ?_; refine qy ?_; refine rg_nil ?_; refine hw_ret ?_; refine ⟨.inr rfl, ?_⟩
   exact f9 rfl rfl (⟨cci (lvE_0 (by omega)).symm, trivial⟩)
  ·
   have h1 := r1
   have h1 := bif_f r0 h1
   have h1 := of_decide_eq_false h1
   try simp only [ty] at h1
   have hz0 : 0 ≤ n := by omega
   have hz1 : n ≤ 16 := by omega
   refine hw_seq ?_; refine gy ?_; (iterate 4 refine qy ?_); refine rg_nil ?_; refine hw_cond _ rfl (fun r2 => ?_) (fun r2 => ?_)
   ·
    have h2 := of_decide_eq_true r2
    try simp only [ty] at h2
    refine hw_seq ?_; refine gy ?_; refine qy ?_; refine rg_nil ?_; refine hw_ret ?_; refine ⟨.inr rfl, ?_⟩
    exact f9 rfl rfl (⟨cci (lvE_1 (by omega) (by omega)).symm, trivial⟩)
   ·
    have h2 := of_decide_eq_false r2
    try simp only [ty] at h2
    refine hw_seq ?_; refine hw_draw (E := TryzE) Tryzok Tryzmixed [0, 1, 2, 3, 4, 5, 6, 7, 8, 9, 10, 11] ?_; (iterate 4 refine qy ?_); refine rsplit rfl rfl (fun r3 => ?_) (fun r3 => ?_)
    ·
     have h3 := of_decide_eq_true r3
     try simp only [ty] at h3
     (iterate 6 refine k9 (gtf r3) ?_); refine rq rfl rfl rfl rfl rfl ?_ (hp := r3); refine qy ?_; refine rg_nil ?_; refine ⟨by kernel_rfl, ?_⟩; refine hw_cond _ rfl (fun _ => ?_) (fun e => by cases e); refine hw_seq ?_
     refine gy ?_; refine qy ?_; refine rg_nil ?_; refine hw_ret ?_; refine ⟨.inr rfl, ?_⟩
     exact f9 rfl rfl (⟨cci (lvE_2 (by omega) (by omega) (by first | exact .inl (by omega) | exact .inr (fun e => absurd (show asI (orL ps) = IntKind.wrap .u32 (1 * 2 ^ (min n.toNat 32)) - 1 by rw [full_v hz0 hz1, e]) (by assumption)))).symm, trivial⟩)
    ·
     have h3 := of_decide_eq_false r3
     try simp only [ty] at h3
     refine qy ?_ (hg := (gff r3)); refine rc rfl rfl rfl rfl rfl rfl good131 (cUnion ps) (CoL.refl _) rfl (gff r3) ?_; (iterate 2 refine qy ?_ (hg := (gff r3)))
     refine rq rfl rfl rfl rfl (gff r3) ?_ (hp := ⟨full_pre hz0 hz1, full_pre2 hz0 hz1⟩); refine qy ?_ (hg := (gff r3)); (iterate 2 refine qy ?_); refine rg_nil ?_; refine ⟨by kernel_rfl, ?_⟩
     refine hw_cond _ rfl (fun r4 => ?_) (fun r4 => ?_)
     ·
      have h4 := r4
      have h4 := bif_f r3 h4
      have h4 := of_decide_eq_false (not_t h4)
      try simp only [ty] at h4
      refine hw_seq ?_; refine gy ?_; refine qy ?_; refine rg_nil ?_; refine hw_ret ?_; refine ⟨.inr rfl, ?_⟩
      exact f9 rfl rfl (⟨cci (lvE_2 (by omega) (by omega) (by first | exact .inl (by omega) | exact .inr (fun e => absurd (show asI (orL ps) = IntKind.wrap .u32 (1 * 2 ^ (min n.toNat 32)) - 1 by rw [full_v hz0 hz1, e]) (by assumption)))).symm, trivial⟩)
     ·
      have h4 := r4
      have h4 := bif_f r3 h4
      have h4 := of_decide_eq_true (not_f h4)
      try simp only [ty] at h4
      refine hw_skip ?_; refine hw_seq ?_; refine gy ?_; refine qy ?_; refine rg_nil ?_; refine hw_ret ?_; refine ⟨.inr rfl, ?_⟩
      exact ⟨_, _, _, _, rfl, (by (repeat' apply And.intro) <;> first | trivial | exact Nat.le_of_ble_eq_true rfl | rfl), rfl, (by (repeat' apply And.intro) <;> first | trivial | exact Nat.le_of_ble_eq_true rfl | rfl), ⟨cci (lvE_3 (by omega) (by omega) (fun e => by
       rcases e with e | e
       · omega
       · exact e (asI_inj.1 ((by assumption : asI (orL ps) = IntKind.wrap .u32 (1 * 2 ^ (min n.toNat 32)) - 1).trans (full_v hz0 hz1))))).symm, trivial⟩⟩
theorem good98 : goodFn Tryz.prog 98 := ⟨Tryz.f98, Tryz.func98, by kernel_rfl, by kernel_rfl⟩
theorem cChased (n : Int) (ps : List AS) (p m : List Fd) : HPure Tryz.prog 98 [pI n, pP (asl ps), pP (fdl p), pP (fdl m)] (prOf [pT (lcR n ps p m).1.1 (lcR n ps p m).1.2, pP (stl (lcR n ps p m).2.1), pT (lcR n ps p m).2.2.1.1 (lcR n ps p m).2.2.1.2, pI (lcR n ps p m).2.2.2]) := by
 refine hpure_of (nt := 58) Tryzok Tryz.func98 rfl rfl l9 ?_; refine hw_seq ?_; refine gy ?_; refine m9 0 ?_; refine qy ?_; refine m9 1 ?_; refine qy ?_; refine rg_nil ?_; (iterate 2 refine hw_seq ?_); refine gy ?_
 (iterate 2 refine qy ?_); refine rc rfl rfl rfl rfl rfl rfl good83 (cLValid n ps) (CoL.refl _) rfl rfl ?_; refine qy ?_; refine rg_nil ?_; refine hw_seq ?_; refine gy ?_; (iterate 2 refine qy ?_); refine rg_nil ?_
 refine hw_cond _ rfl (fun r0 => ?_) (fun r0 => ?_)
 ·
  have h0 := r0
  have h0 := of_decide_eq_false (not_t h0)
  try simp only [ty] at h0
  refine hw_seq ?_; refine gy ?_; (iterate 3 refine qy ?_); refine s9 ?_; refine qy ?_; refine s9 ?_; refine qy ?_; refine rg_nil ?_; refine hw_ret ?_; refine ⟨.inr rfl, ?_⟩
  have he := lcR_0 (p := p) (m := m) (by assumption : ¬ lvE n ps = 0)
  exact f9 rfl rfl (by rw [he]; exact ⟨CoC.agg ⟨CoP.refl _, co_nilZ, trivial⟩, CoC.one (CoP.sl rfl (.inr rfl) (fun _ => rfl) (fun i j hi _ => absurd hi (Nat.not_lt_zero i))), CoC.agg ⟨CoP.refl _, co_nilZ, trivial⟩, CoC.refl _, trivial⟩)
 ·
  have h0 := r0
  have h0 := of_decide_eq_true (not_f h0)
  try simp only [ty] at h0
  have hv : lvE n ps = 0 := by assumption
  refine hw_skip ?_; (iterate 2 refine hw_seq ?_); refine gy ?_; (iterate 3 refine qy ?_); refine rc rfl rfl rfl rfl rfl rfl good91 (cBValid n p m) (CoL.refl _) rfl rfl ?_; refine qy ?_; refine rg_nil ?_; refine hw_seq ?_
  refine gy ?_; (iterate 2 refine qy ?_); refine rg_nil ?_; refine hw_cond _ rfl (fun r1 => ?_) (fun r1 => ?_)
  ·
   have h1 := r1
   have h1 := of_decide_eq_false (not_t h1)
   try simp only [ty] at h1
   refine hw_seq ?_; refine gy ?_; (iterate 3 refine qy ?_); refine s9 ?_; refine qy ?_; refine s9 ?_; refine qy ?_; refine rg_nil ?_; refine hw_ret ?_; refine ⟨.inr rfl, ?_⟩
   have he := lcR_1 hv (by assumption : ¬ bErr n p m = 0)
   exact f9 rfl rfl (by rw [he]; exact ⟨CoC.agg ⟨CoP.refl _, co_nilZ, trivial⟩, CoC.one (CoP.sl rfl (.inr rfl) (fun _ => rfl) (fun i j hi _ => absurd hi (Nat.not_lt_zero i))), CoC.agg ⟨CoP.refl _, co_nilZ, trivial⟩, CoC.refl _, trivial⟩)
  ·
   have h1 := r1
   have h1 := of_decide_eq_true (not_f h1)
   try simp only [ty] at h1
   have hb : bErr n p m = 0 := by assumption
   refine hw_skip ?_; refine hw_seq ?_; refine gy ?_; (iterate 2 refine qy ?_); refine rc rfl rfl rfl rfl rfl rfl good148 (cStartL n ps hv) (CoL.refl _) rfl rfl ?_; (iterate 3 refine qy ?_); refine m9 2 ?_; refine s9 ?_
   refine qy ?_; refine rg_nil ?_; (iterate 2 refine hw_seq ?_); refine gy ?_; (iterate 2 refine qy ?_); refine rg_nil ?_; refine hw_cond _ rfl (fun e => by cases e) (fun _ => ?_); refine hw_skip ?_; refine hw_seq ?_
   refine gy ?_; (iterate 3 refine qy ?_); refine rc rfl rfl rfl rfl rfl rfl good149 (cStepsL n ps p m) (CoL.refl _) rfl rfl ?_; (iterate 4 refine qy ?_); refine m9 3 ?_; refine qy ?_; refine s9 ?_; refine qy ?_; refine rg_nil ?_
   refine hw_seq ?_; refine hw_draw (E := TryzE) Tryzok Tryzmixed [0, 1, 2, 3, 4, 5, 6, 7] ?_; (iterate 4 refine qy ?_); refine s9 ?_; refine qy ?_; refine s9 ?_; refine qy ?_; refine rg_nil ?_; refine ⟨by kernel_rfl, ?_⟩
   refine hw_ret ?_; refine ⟨.inr rfl, ?_⟩
   have he := lcR_2 hv hb
   exact f9 rfl rfl (by rw [he]; exact CoL.refl _)
theorem good100 : goodFn Tryz.prog 100 := ⟨Tryz.f100, Tryz.func100, by kernel_rfl, by kernel_rfl⟩
theorem cLFirst (n : Int) (h0 : 0 ≤ n) (h1 : n ≤ 16) : HPure Tryz.prog 100 [pI n] (prOf [pZ (firstZ n)]) := by
 refine hpure_of (nt := 18) Tryzok Tryz.func100 rfl rfl l9 ?_; refine hw_seq ?_; refine gy ?_; refine qy ?_; refine rg_nil ?_; refine hw_seq ?_; refine gy ?_; refine qy ?_; refine m9 0 ?_; refine qy ?_; refine rg_nil ?_
 (iterate 2 refine hw_seq ?_); refine gy ?_; (iterate 3 refine qy ?_); refine rg_nil ?_; refine hw_block ?_
 refine hw_loopK (ι := Nat) ⟨[(3, some _), (8, some _)], []⟩ ⟨⟨c9, c9, trivial⟩, trivial⟩ (fun k => ⟨[(9, some (vI k))], [(0, some (.arr true 1 3 n.toNat (lf zC (stT n 0 (fullS 32) k))))]⟩) (fun k => k ≤ n.toNat) (fun k => n.toNat - k) (0) (Nat.zero_le _) ⟨⟨zy, trivial⟩, ⟨⟨_, rfl, (stT_zero rfl (fun _ => rfl))⟩, trivial⟩⟩ ?_
 rintro k hk
 refine hw_seq ?_; refine gy ?_; refine qy ?_; refine rg_nil ?_; refine hw_seq ?_; refine hw_cond _ rfl (fun r0 => ?_) (fun r0 => ?_)
 ·
  have h0 := of_decide_eq_true r0
  try simp only [ty] at h0
  refine hw_skip ?_; refine hw_seq ?_; refine hw_block ?_; refine hw_seq ?_; refine gy ?_; (iterate 2 refine qy ?_); refine rg_nil ?_; refine gy ?_; (iterate 4 refine qy ?_); refine s9 ?_; refine rg_nil ?_; refine gy ?_
  (iterate 2 refine qy ?_); refine rg_nil ?_; refine ⟨k + 1, ?_, ?_, ?_⟩
  · show k + 1 ≤ _; omega
  · first | omega | (dsimp only; omega)
  · exact ⟨⟨zy, c9, c9, trivial⟩, ⟨⟨_, rfl, (co_st0 (full32 (by omega)) rfl (by omega))⟩, trivial⟩⟩
 ·
  have h0 := of_decide_eq_false r0
  try simp only [ty] at h0
  refine hw_exit ?_; refine hw_seq ?_; refine hw_freeze 3 rfl rfl rfl ?_; refine gy ?_; (iterate 2 refine qy ?_); refine rg_nil ?_; refine hw_ret ?_; refine ⟨.inr rfl, ?_⟩
  exact f9 rfl rfl (⟨co_firstT h1 (by omega), trivial⟩)
theorem good50 : goodFn Tryz.prog 50 := ⟨Tryz.f50, Tryz.func50, by kernel_rfl, by kernel_rfl⟩
theorem cLIs (n : Int) (ps : List AS) (p m : List Fd) : HPure Tryz.prog 50 [pI n, pP (asl ps), pP (fdl p), pP (fdl m)] (prOf [pB (lsB n ps p m), pI (lsC n ps p m)]) := by
 refine hpure_of (nt := 33) Tryzok Tryz.func50 rfl rfl l9 ?_; refine hw_seq ?_; refine gy ?_; (iterate 2 refine qy ?_); refine rg_nil ?_; refine hw_seq ?_; refine gy ?_; (iterate 4 refine qy ?_)
 refine rc rfl rfl rfl rfl rfl rfl good98 (cChased n ps p m) (CoL.refl _) rfl rfl ?_; (iterate 5 refine qy ?_); refine m9 0 ?_; refine m9 1 ?_; refine s9 ?_; refine qy ?_; refine s9 ?_; refine qy ?_; refine rg_nil ?_
 refine hw_seq ?_; refine hw_draw (E := TryzE) Tryzok Tryzmixed [0, 1, 2, 3, 4, 5, 6, 7, 8, 9, 10] ?_; (iterate 3 refine qy ?_); refine rsplit rfl rfl (fun r0 => ?_) (fun r0 => ?_)
 ·
  have h0 := of_decide_eq_true r0
  try simp only [ty] at h0
  have hz := is_n (n := n) (ps := ps) (p := p) (m := m) rfl h0
  (iterate 2 refine qy ?_ (hg := (gtt r0))); refine rc rfl rfl rfl rfl rfl rfl good100 (cLFirst n hz.1 (by omega)) (CoL.refl _) rfl (gtt r0) ?_
  refine rc rfl rfl rfl rfl rfl rfl good99 (cCont (lcR n ps p m).2.2.1.1 (lcR n ps p m).2.2.1.2 (firstZ n)) (CoL.refl _) rfl (gtt r0) ?_; (iterate 4 refine qy ?_); refine rg_nil ?_; refine ⟨by kernel_rfl, ?_⟩; refine hw_ret ?_
  refine ⟨.inr rfl, ?_⟩
  exact f9 rfl rfl (⟨ccb (by first | exact is_b | exact is_t (n := n) (ps := ps) (p := p) (m := m) (by assumption) | exact (is_f (n := n) (ps := ps) (p := p) (m := m) (by assumption)).symm), cci lcR_code, trivial⟩)
 ·
  have h0 := of_decide_eq_false r0
  try simp only [ty] at h0
  (iterate 4 refine k9 (gft r0) ?_); refine rq rfl rfl rfl rfl rfl ?_ (hp := r0); (iterate 3 refine qy ?_); refine rg_nil ?_; refine ⟨by kernel_rfl, ?_⟩; refine hw_ret ?_; refine ⟨.inr rfl, ?_⟩
  exact f9 rfl rfl (⟨ccb (by first | exact is_b | exact is_t (n := n) (ps := ps) (p := p) (m := m) (by assumption) | exact (is_f (n := n) (ps := ps) (p := p) (m := m) (by assumption)).symm), cci lcR_code, trivial⟩)
end Go.Hx
end
section
namespace Go.Hx
inductive Lf (l : List Fd) : AS → AS → Prop
 | leaf {s : AS} : violB l s = false → Lf l s s
 | left {s q : AS} : violB l s = true → Lf l (spA l s) q → Lf l s q
 | right {s q : AS} : violB l s = true → Lf l (spB l s) q → Lf l s q
def splL (l : List Fd) : Nat → AS → List AS
 | 0, s => [s]
 | k + 1, s => if violB l s = true then splL l k (spA l s) ++ splL l k (spB l s) else [s]
theorem bck_f {n : Int} {l : List Fd} {ps : List AS} (h : ¬ lsC n ps l [] = 0 ∨ lsB n ps l [] = false) : bckB n l ps = false := by
 have : lsB n ps l [] = false := by
  rcases h with h | h
  · unfold lsB; rw [decide_eq_false h]; rfl
  · exact h
 unfold bckB
 rw [this]
 rfl
theorem bck_t {n : Int} {l : List Fd} {ps : List AS} (h : lsB n ps l [] = true) : (!ps.any (violB l)) = bckB n l ps := by
 unfold bckB
 rw [h]
 rfl
theorem nilFd {s : Nat} {f : Nat → Nat → PV} : CoC (.one (.sl 0 s true f)) (pP (fdl [])) := CoC.one (CoP.sl rfl (.inr rfl) (fun h => by cases h) fun i j hi _ => absurd hi (Nat.not_lt_zero i))
end Go.Hx
end
section
namespace Go.Hx
open Go.Proofs
set_option maxRecDepth 100000
set_option maxHeartbeats 1000000
theorem good66 : goodFn Tryz.prog 66 := ⟨Tryz.f66, Tryz.func66, by kernel_rfl, by kernel_rfl⟩
theorem cBck1 (s : AS) (l : List Fd) : HPure Tryz.prog 66 [pA s, pP (bx (fdl l))] (prOf [pB (violB l s)]) := by
 refine hpure_of (nt := 13) Tryzok Tryz.func66 rfl rfl l9 ?_; refine hw_seq ?_; refine gy ?_; refine qy ?_; refine rg_nil ?_; refine hw_seq ?_; refine gy ?_; (iterate 2 refine qy ?_)
 refine rc rfl rfl rfl rfl rfl rfl good62 (cViol l s) (CoL.refl _) rfl rfl ?_; (iterate 3 refine qy ?_); refine m9 0 ?_; refine s9 ?_; refine qy ?_; refine rg_nil ?_; refine hw_seq ?_; refine gy ?_; (iterate 2 refine qy ?_)
 refine rg_nil ?_; refine hw_ret ?_; refine ⟨.inr rfl, ?_⟩
 exact f9 rfl rfl (CoL.refl _)
theorem good33 : goodFn Tryz.prog 33 := ⟨Tryz.f33, Tryz.func33, by kernel_rfl, by kernel_rfl⟩
theorem cBck (n : Int) (l : List Fd) (ps : List AS) : HPure Tryz.prog 33 [pI n, pP (fdl l), pP (asl ps)] (prOf [pB (bckB n l ps), pI (lsC n ps l [])]) := by
 refine hpure_of (nt := 28) Tryzok Tryz.func33 rfl rfl l9 ?_; refine hw_seq ?_; refine gy ?_; refine m9 0 ?_; (iterate 2 refine qy ?_); refine rg_nil ?_; refine hw_seq ?_; refine gy ?_; (iterate 3 refine qy ?_)
 refine rc rfl rfl rfl rfl rfl rfl good50 (cLIs n ps l []) (⟨CoC.refl _, CoC.refl _, CoC.refl _, nilFd, trivial⟩) rfl rfl ?_; (iterate 5 refine qy ?_); refine rg_nil ?_; (iterate 2 refine hw_seq ?_); refine gy ?_
 (iterate 3 refine qy ?_); refine rsplit rfl rfl (fun r0 => ?_) (fun r0 => ?_)
 ·
  have h0 := r0
  have h0 := of_decide_eq_false (not_t h0)
  try simp only [ty] at h0
  (iterate 2 refine k9 (gtf r0) ?_); refine rq rfl rfl rfl rfl rfl ?_ (hp := r0); refine rg_nil ?_; refine hw_cond _ rfl (fun _ => ?_) (fun e => by cases e); refine hw_seq ?_; refine gy ?_; (iterate 3 refine qy ?_)
  refine rg_nil ?_; refine hw_ret ?_; refine ⟨.inr rfl, ?_⟩
  exact f9 rfl rfl (⟨ccb (bck_f (by first | exact .inl (by assumption) | exact .inr (by simp_all))).symm, CoC.refl _, trivial⟩)
 ·
  have h0 := r0
  have h0 := of_decide_eq_true (not_f h0)
  try simp only [ty] at h0
  (iterate 2 refine qy ?_ (hg := (gff r0))); refine qy ?_; refine rg_nil ?_; refine hw_cond _ rfl (fun r1 => ?_) (fun r1 => ?_)
  ·
   have h1 := r1
   have h1 := bif_f r0 h1
   have h1 := not_t h1
   refine hw_seq ?_; refine gy ?_; (iterate 3 refine qy ?_); refine rg_nil ?_; refine hw_ret ?_; refine ⟨.inr rfl, ?_⟩
   exact f9 rfl rfl (⟨ccb (bck_f (by first | exact .inl (by assumption) | exact .inr (by simp_all))).symm, CoC.refl _, trivial⟩)
  ·
   have h1 := r1
   have h1 := bif_f r0 h1
   have h1 := not_f h1
   refine hw_skip ?_; refine hw_seq ?_; refine hw_freeze_box 4 rfl rfl rfl ?_; refine gy ?_; (iterate 2 refine qy ?_)
   refine rc rfl rfl rfl rfl rfl rfl good65 (cCoFS ps 66 1 (fun i => [bx (fdl l)].getD i .any) (violB l) good66 (fun s => cBck1 s l)) (CoL.refl _) rfl rfl ?_; (iterate 3 refine qy ?_); refine rg_nil ?_; refine hw_ret ?_
   refine ⟨.inr rfl, ?_⟩
   exact f9 rfl rfl (⟨ccb (bck_t (by simp_all)), cci (by symm; assumption), trivial⟩)
end Go.Hx
end
section
namespace Go.Hx
open Go.Proofs
theorem dps_num (d : Dps) : 0 ≤ d.num ∧ d.num ≤ 6 := by
 have := Nat.mod_lt d.n.toNat (show 0 < 7 by decide)
 unfold Dps.num
 omega
theorem dps_errS {d : Dps} (h : d.l.length ≤ 6) : errS d.num d.fds 8 = 0 := dps_err h
theorem cSameX32 (l : List AS) : HPure Tryz.prog 32 [pP (asl l), pP (asl l)] (prOf [pB true]) := by
 have := cSameS l l
 rw [decide_eq_true rfl] at this
 exact this
theorem cBckX {n : Int} {l : List Fd} {ps : List AS} (h : lsC n ps l [] = 0) (h2 : bckB n l ps = true) : HPure Tryz.prog 33 [pI n, pP (fdl l), pP (asl ps)] (prOf [pB true, pI 0]) := by
 have := cBck n l ps
 rw [h, h2] at this
 exact this
def u8A (b : BitVec 8) : AS := b.setWidth 32
abbrev u8C : BitVec 8 → Nat → PV := fun b _ => .raw (.int .u8 (b.toNat : Int))
end Go.Hx
end
section
namespace Go.Hx
open Go.Proofs Go.Proofs.YtidophngianjiaaGreatDoor
open Go.RowKit Go.ChangeShapes Go.WideShapes Go.ChangeAt
theorem rd5 : Rd Tryz.prog 5 1 u8C := (rd_u8 Tryz.underlying5).co (fun u => u.toBitVec) fun a j hj => CoP.refl _
theorem rd136 : Rd Tryz.prog 136 2 Dp.c := by
 intro H enc w sp held fuel cs x h
 obtain ⟨hl, n, hf⟩ := rd_fields Tryz.underlying136 h
 obtain ⟨y0, e0⟩ := hf 0 _ rfl
 obtain ⟨y1, e1⟩ := hf 1 _ rfl
 obtain ⟨a0, h0⟩ := rd_field rd5 e0
 obtain ⟨a1, h1⟩ := rd_field rd5 e1
 refine ⟨hl.trans (by kernel_rfl), (⟨a0, a1⟩ : Dp), fun j hj => ?_⟩
 match j, hj with
 | 0, _ => exact h0 0 (by omega)
 | 1, _ => exact h1 0 (by omega)
theorem rb22d : RdB Tryz.prog 22 1 (pslC 2 Dp.c) fun b l => l.length ≤ b :=
 (rdB_slice (B := fun _ _ => True) (fun _ _ _ _ _ => trivial) Tryz.underlying22 (by kernel_rfl) (by omega) rd136.toB).co id (fun b a h => h.1) fun a j hj => CoP.refl _
theorem rb24 : RdB Tryz.prog 24 2 Dps.c fun b d => d.l.length ≤ b := by
 intro H enc w sp held fuel cs x h
 obtain ⟨hl, n, hf⟩ := rdB_fields Tryz.underlying24 h
 obtain ⟨y0, e0⟩ := hf 0 _ rfl
 obtain ⟨y1, e1⟩ := hf 1 _ rfl
 obtain ⟨a0, _, h0⟩ := rdB_field (fun _ _ _ _ _ => trivial) rd5.toB e0
 obtain ⟨a1, hb, h1⟩ := rdB_field (B := fun b (l : List Dp) => l.length ≤ b) (fun _ _ _ h k => Nat.le_trans k h) rb22d e1
 refine ⟨hl.trans (by kernel_rfl), (⟨a0, a1⟩ : Dps), hb, fun j hj => ?_⟩
 match j, hj with
 | 0, _ => exact h0 0 (by omega)
 | 1, _ => exact h1 0 (by omega)
theorem par24 : Tryz.prog.readableRec 24 = true ∧ 24 < Tryz.prog.types.size := ⟨by kernel_rfl, of_decide_eq_true (by kernel_rfl)⟩
end Go.Hx
end
section
namespace Go.Hx
section
variable {n : Int} {l : List Fd}
theorem possF_sub {ps : List AS} {s q : AS} (h : q ∈ possF n l ps s) : q ∈ ps := by
 unfold possF at h
 split at h
 · exact List.mem_of_mem_eraseIdx h
 · exact h
theorem possN_sub {p0 : List AS} : ∀ {j : Nat} {q : AS}, q ∈ possN n l p0 j → q ∈ p0
 | 0, q, h => h
 | j + 1, q, h => possN_sub (j := j) (possF_sub h)
theorem possF_nd {ps : List AS} {s : AS} (h : ps.Nodup) : (possF n l ps s).Nodup := by
 unfold possF
 split
 · exact h.sublist (List.eraseIdx_sublist _ _)
 · exact h
theorem possN_nd {p0 : List AS} (h : p0.Nodup) : ∀ j, (possN n l p0 j).Nodup
 | 0 => h
 | j + 1 => possF_nd (possN_nd h j)
theorem possF_good {ps : List AS} {s : AS} (h : goodB n l ps = true) : goodB n l (possF n l ps s) = true := by
 unfold possF
 split
 · rename_i e; exact e
 · exact h
theorem possN_good {p0 : List AS} (h : goodB n l p0 = true) : ∀ j, goodB n l (possN n l p0 j) = true
 | 0 => h
 | j + 1 => possF_good (possN_good h j)
theorem nd_at {ps : List AS} (h : ps.Nodup) {i : Nat} (hi : i < ps.length) : idx (fun x => decide (x = ps.getD i default)) ps = (i : Int) := by
 refine idx_t hi (fun j hj => ?_) (decide_eq_true rfl)
 exact decide_eq_false (nodup_get h (by omega) hi (by omega))
theorem possN_take {p0 : List AS} (h : p0.Nodup) : ∀ j, j ≤ p0.length → (possN n l p0 j).take (p0.length - j) = p0.take (p0.length - j) ∧ p0.length - j ≤ (possN n l p0 j).length
 | 0, _ => ⟨rfl, Nat.le_refl _⟩
 | j + 1, hj => by
  obtain ⟨h1, h2⟩ := possN_take h j (by omega)
  have hi : p0.length - 1 - j < (possN n l p0 j).length := by omega
  have he : p0.getD (p0.length - 1 - j) default = (possN n l p0 j).getD (p0.length - 1 - j) default := by
   have e1 : (p0.take (p0.length - j)).getD (p0.length - 1 - j) default = p0.getD (p0.length - 1 - j) default := by
    rw [List.getD_eq_getElem?_getD, List.getElem?_take, if_pos (by omega), List.getD_eq_getElem?_getD]
   have e2 : ((possN n l p0 j).take (p0.length - j)).getD (p0.length - 1 - j) default = (possN n l p0 j).getD (p0.length - 1 - j) default := by
    rw [List.getD_eq_getElem?_getD, List.getElem?_take, if_pos (by omega), List.getD_eq_getElem?_getD]
   rw [← e1, ← e2, h1]
  have hx := nd_at (possN_nd (n := n) (l := l) h j) hi
  have hcut : (possN n l p0 j).take (p0.length - (j + 1)) = p0.take (p0.length - (j + 1)) := by
   have := congrArg (List.take (p0.length - (j + 1))) h1
   rwa [List.take_take, List.take_take, Nat.min_eq_left (by omega)] at this
  show (possF n l (possN n l p0 j) (p0.getD (p0.length - 1 - j) default)).take _ = _ ∧ _ ≤ (possF n l (possN n l p0 j) (p0.getD (p0.length - 1 - j) default)).length
  rw [he]
  unfold possF
  rw [hx, Int.toNat_natCast]
  split
  · refine ⟨?_, ?_⟩
    · rw [← hcut]
      refine List.ext_getElem? fun a => ?_
      rw [List.getElem?_take, List.getElem?_take]
      split
      · rw [List.getElem?_eraseIdx, if_pos (by omega)]
      · rfl
    · rw [List.length_eraseIdx, if_pos hi]
      omega
  · exact ⟨hcut, by omega⟩
theorem possN_step {p0 : List AS} (h : p0.Nodup) {j : Nat} (hj : j < p0.length) : possN n l p0 (j + 1) = if goodB n l ((possN n l p0 j).take (p0.length - 1 - j) ++ (possN n l p0 j).drop (p0.length - 1 - j + 1)) = true then (possN n l p0 j).take (p0.length - 1 - j) ++ (possN n l p0 j).drop (p0.length - 1 - j + 1) else possN n l p0 j := by
 obtain ⟨h1, h2⟩ := possN_take (n := n) (l := l) h j (by omega)
 have hi : p0.length - 1 - j < (possN n l p0 j).length := by omega
 have he : p0.getD (p0.length - 1 - j) default = (possN n l p0 j).getD (p0.length - 1 - j) default := by
  have e1 : (p0.take (p0.length - j)).getD (p0.length - 1 - j) default = p0.getD (p0.length - 1 - j) default := by
   rw [List.getD_eq_getElem?_getD, List.getElem?_take, if_pos (by omega), List.getD_eq_getElem?_getD]
  have e2 : ((possN n l p0 j).take (p0.length - j)).getD (p0.length - 1 - j) default = (possN n l p0 j).getD (p0.length - 1 - j) default := by
   rw [List.getD_eq_getElem?_getD, List.getElem?_take, if_pos (by omega), List.getD_eq_getElem?_getD]
  rw [← e1, ← e2, h1]
 have hx := nd_at (possN_nd (n := n) (l := l) h j) hi
 show possF n l (possN n l p0 j) (p0.getD (p0.length - 1 - j) default) = _
 rw [he]
 unfold possF
 rw [hx, Int.toNat_natCast, List.eraseIdx_eq_take_drop_succ]
theorem skey_up (hv : vErr n l = 0) {a b : AS} (h : skey n l a = true) (hs : sub a b) (hb : sub b (fullI n)) : skey n l b = true := by
 obtain ⟨_, _, h3⟩ := of_decide_eq_true h
 refine decide_eq_true ⟨hv, hb, sub_antisymm (clo_full hv hb) ?_⟩
 rw [← h3]
 exact clo_mono hs
theorem key_ex (hv : vErr n l = 0) : ∀ (k : Nat) (s : AS), bsz s ≤ k → skey n l s = true → ∃ q, isKey n l q = true := by
 intro k
 induction k with
 | zero =>
  intro s hs h
  refine ⟨s, isKey_t h fun a ha => ?_⟩
  rw [Bool.and_eq_false_iff]
  left
  rw [Bool.eq_false_iff]
  intro hb
  have h0 : sub (noA s a) s := noA_sub
  have hne : noA s a ≠ s := fun e => by
   have h1 : (noA s a).getLsbD a = true := by rw [e]; exact hb
   unfold noA at h1
   have ha32 : a < 32 := by
    apply Classical.byContradiction
    intro hn
    rw [BitVec.getLsbD_of_ge s a (by omega)] at hb
    cases hb
   rw [BitVec.getLsbD_and, BitVec.getLsbD_not, bit_one a a ha32] at h1
   simp at h1
  have := sub_ne_bsz h0 hne
  omega
 | succ k ih =>
  intro s hs h
  by_cases hk : ∀ a, a < n.toNat → (s.getLsbD a && skey n l (noA s a)) = false
  · exact ⟨s, isKey_t h hk⟩
  · obtain ⟨a, ha⟩ := Classical.not_forall.1 hk
    obtain ⟨ha, hb⟩ := Classical.not_imp.1 ha
    rw [Bool.not_eq_false, Bool.and_eq_true] at hb
    obtain ⟨hb, hc⟩ := hb
    have hne : noA s a ≠ s := fun e => by
     have h1 : (noA s a).getLsbD a = true := by rw [e]; exact hb
     unfold noA at h1
     have ha32 : a < 32 := by
      apply Classical.byContradiction
      intro hn
      rw [BitVec.getLsbD_of_ge s a (by omega)] at hb
      cases hb
     rw [BitVec.getLsbD_and, BitVec.getLsbD_not, bit_one a a ha32] at h1
     simp at h1
    have := sub_ne_bsz (noA_sub) hne
    exact ih (noA s a) (by omega) hc
theorem subF_in (h8 : errS n l 8 = 0) {q : AS} (h : q ∈ subF n l) : sub q (fullI n) ∧ violB l q = false := by
 rw [subF_t h8, List.mem_filter] at h
 refine ⟨subsC_sub h.1, ?_⟩
 have := h.2
 rw [Bool.not_eq_true'] at this
 exact this
theorem open_maxl {L : List AS} {t : AS} (h : openP l (maxl L) t) : openP l L t := fun p hp => by
 obtain ⟨y, hy, hpy⟩ := in_maxl hp
 refine sub_trans (sub_and_both ?_ ?_) (h y hy)
 · exact sub_trans sub_and_r (clo_mono (sub_and_both sub_and_r (sub_trans sub_and_l hpy)))
 · exact sub_trans sub_and_l hpy
theorem allP_maxl {L : List AS} (h : allP l L = true) : allP l (maxl L) = true := by
 rw [allP_iff] at h ⊢
 intro f hf
 have := of_decide_eq_true (h f hf)
 refine decide_eq_true (sub_trans this (kept_le (open_maxl (kept_fix l (maxl L) f.lhs)) kept_ge))
theorem good0 (h8 : errS n l 8 = 0) (hall : allP l (subF n l) = true) : goodB n l (maxl (subF n l)) = true := by
 obtain ⟨hv, hn8⟩ := errS_ok h8
 obtain ⟨h0, h16, _⟩ := vErr_ok hv
 have hin : ∀ q, q ∈ maxl (subF n l) → sub q (fullI n) := fun q hq => (subF_in h8 (mem_maxl.1 hq).1).1
 have e1 : orL (maxl (subF n l)) = fullI n := by
  refine sub_antisymm (orL_in hin) (sub_bit.2 fun i hi hb => ?_)
  have hsub : sub ((1 : AS) <<< i) (fullI n) := sub_bit.2 fun k hk hbk => by
   rw [bit_one i k hk] at hbk
   rw [of_decide_eq_true hbk]
   exact hb
  obtain ⟨y, hy, hiy⟩ := in_maxl (mem_subF h8 hsub one_form)
  refine sub_bit.1 (mem_orL hy) i hi (sub_bit.1 hiy i hi ?_)
  rw [bit_one i i hi]
  simp
 have e2 := allP_maxl hall
 have hfull : skey n l (fullI n) = true := decide_eq_true ⟨hv, sub_refl _, sub_antisymm (clo_full hv (sub_refl _)) clo_ge⟩
 obtain ⟨k, hk⟩ := key_ex hv _ (fullI n) (Nat.le_refl _) hfull
 have hks : skey n l k = true := by
  unfold isKey at hk
  rw [Bool.and_eq_true] at hk
  exact hk.1
 obtain ⟨_, hksub, _⟩ := of_decide_eq_true hks
 obtain ⟨y, hy, hky⟩ := in_maxl (mem_subF h8 hksub (key_form (by omega) hk))
 have e3 : (maxl (subF n l)).any (skey n l) = true := List.any_eq_true.2 ⟨y, hy, skey_up hv hks hky (hin y hy)⟩
 unfold goodB
 rw [e2, e3, decide_eq_true e1]
 rfl
theorem good_get {ps : List AS} (h : goodB n l ps = true) : orL ps = fullI n ∧ allP l ps = true ∧ ∃ k, k ∈ ps ∧ skey n l k = true := by
 unfold goodB at h
 rw [Bool.and_eq_true, Bool.and_eq_true] at h
 obtain ⟨k, hk, hs⟩ := List.any_eq_true.1 h.2
 exact ⟨of_decide_eq_true h.1.1, h.1.2, k, hk, hs⟩
theorem poss_ok (h8 : errS n l 8 = 0) (h6 : n ≤ 6) (hp : possB n l = true) : lsC n (possL n l) l [] = 0 ∧ bckB n l (possL n l) = true ∧ allP l (possL n l) = true := by
 obtain ⟨hv, _⟩ := errS_ok h8
 obtain ⟨h0, h16, _⟩ := vErr_ok hv
 have hall : possAll n l = true := by
  unfold possB at hp
  rw [decide_eq_true h8, Bool.true_and] at hp
  exact hp
 have e := (poss_3 h8 hall).1
 have hg : goodB n l (possL n l) = true := by rw [e]; exact possN_good (good0 h8 hall) _
 have hmem : ∀ q, q ∈ possL n l → sub q (fullI n) ∧ violB l q = false := fun q hq => by
  rw [e] at hq
  exact subF_in h8 (mem_maxl.1 (possN_sub hq)).1
 obtain ⟨g1, g2, k, hk, g3⟩ := good_get hg
 have hlv : lvE n (possL n l) = 0 := lv_of h0 h6 (by rw [e]; exact possN_nd (maxl_nodup _) _) (fun q hq => (hmem q hq).1) (List.length_pos_of_mem hk) (by rw [g1]; exact sub_refl _)
 obtain ⟨c1, c2⟩ := ls_told hlv (bErr_nil hv)
 obtain ⟨_, _, hkey⟩ := of_decide_eq_true g3
 refine ⟨c1, ?_, g2⟩
 unfold bckB
 rw [c2.2 (pres_lossless h0 h16 hk hkey g2), Bool.true_and, Bool.not_eq_true', List.any_eq_false]
 intro q hq
 rw [(hmem q hq).2]
 decide
end
end Go.Hx
end
section
namespace Go.Hx
theorem allP_no {l : List Fd} {ps : List AS} {i : Nat} (hi : i < l.length) (h : presB l ps (l.getD i default) = false) : allP l ps = false := by
 rw [Bool.eq_false_iff]
 intro e
 have := allP_iff.1 e _ (mem_getD hi)
 rw [h] at this
 cases this
theorem allP_yes {l : List Fd} {ps : List AS} (h : ∀ j, j < l.length → presB l ps (l.getD j default) = true) : allP l ps = true := allP_iff.2 fun f hf => by
 obtain ⟨j, hj, rfl⟩ := mem_at hf
 exact h j hj
theorem any_succ {f : AS → Bool} {ps : List AS} {i : Nat} (hi : i < ps.length) {v : Bool} (h : ((ps.take i).any f = true ∧ v = true) ∨ ((ps.take i).any f = false ∧ v = f (ps.getD i default))) : v = (ps.take (i + 1)).any f := by
 rw [take_snoc hi, List.any_append]
 rcases h with ⟨h1, h2⟩ | ⟨h1, h2⟩
 · rw [h1, h2]; rfl
 · rw [h1, h2]; simp
theorem en_v {n : Int} {l : List Fd} {ps : List AS} : goodB n l ps = (bif bif (ps.take ps.length).any (skey n l) then decide (asI (orL (ps.take ps.length)) = asI (fullI n)) else false then allP l ps else false) := by
 unfold goodB
 rw [List.take_length, asI_eq]
 cases decide (orL ps = fullI n) <;> cases allP l ps <;> cases ps.any (skey n l) <;> rfl
theorem possN_len (n : Int) (l : List Fd) (p0 : List AS) : ∀ j, (possN n l p0 j).length ≤ p0.length
 | 0 => Nat.le_refl _
 | j + 1 => by
  have := possN_len n l p0 j
  show (possF n l (possN n l p0 j) _).length ≤ _
  unfold possF
  split
  · exact Nat.le_trans (List.length_eraseIdx_le _ _) this
  · exact this
theorem co_cutR {L : List AS} {i : Nat} (hi : i < L.length) {z1 z2 : Int} (h1 : z1.toNat = i) (h2 : z2.toNat = i + 1) {f0 : Nat → Nat → PV} : CoP (.sl (0 + less (upTo L.length (some z1)) none + less (upTo L.length none) (some z2)) 1 false (appF (0 + less (upTo L.length (some z1)) none) (appF 0 f0 (from_ (lf (fun s _ => asC s) L) none)) (from_ (lf (fun s _ => asC s) L) (some z2)))) (asl (L.take i ++ L.drop (i + 1))) := by
 refine co_appP (l := L.take i) (l' := L.drop (i + 1)) ?_ ?_ (fun a j ha hj => CoP.of_eq ?_) (fun a j ha hj => CoP.of_eq ?_)
 · show 0 + z1.toNat = _
   rw [List.length_take]; omega
 · show L.length - z2.toNat = _
   rw [List.length_drop]; omega
 · have ha : a < 0 + z1.toNat := ha
   show appF 0 f0 (lf (fun s _ => asC s) L) a j = _
   unfold appF
   rw [if_neg (Nat.not_lt_zero a), Nat.sub_zero]
   simp only [lf, List.getD, List.getElem?_take]
   rw [if_pos (by omega)]
 · show lf (fun s _ => asC s) L (z2.toNat + a) j = _
   rw [h2]
   simp only [lf, List.getD, List.getElem?_drop]
end Go.Hx
end
