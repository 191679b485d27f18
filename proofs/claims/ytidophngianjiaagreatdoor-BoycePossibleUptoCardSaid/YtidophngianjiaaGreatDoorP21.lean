/- A part of the proof: lemmas for the theorem of this claim, merged by a program of ours out of V7. -/
import Derived.Test.YtidophngianjiaaGreatDoorP20
set_option linter.all false
section
namespace Go.Hx
open Go.Proofs
set_option maxRecDepth 100000
set_option maxHeartbeats 1000000
theorem good142 : goodFn Tryz.prog 142 := ⟨Tryz.f142, Tryz.func142, by kernel_rfl, by kernel_rfl⟩
theorem cBefore (a b : AS) : HPure Tryz.prog 142 [pA a, pA b] (prOf [pB (bef a b)]) := by
 refine hpure_of (nt := 18) Tryzok Tryz.func142 rfl rfl l9 ?_; refine hw_seq ?_; refine gy ?_; refine qy ?_; refine rg_nil ?_; (iterate 2 refine hw_seq ?_); refine gy ?_; refine qy ?_
 refine rc rfl rfl rfl rfl rfl rfl good153 (cRSize _) (CoL.refl _) rfl rfl ?_; refine qy ?_; refine rc rfl rfl rfl rfl rfl rfl good153 (cRSize _) (CoL.refl _) rfl rfl ?_; refine qy ?_; refine rg_nil ?_
 refine hw_cond _ rfl (fun r0 => ?_) (fun r0 => ?_)
 ·
  have h0 := r0
  have h0 := of_decide_eq_false (not_t h0)
  try simp only [ty] at h0
  refine hw_seq ?_; refine gy ?_; refine qy ?_; refine rc rfl rfl rfl rfl rfl rfl good153 (cRSize _) (CoL.refl _) rfl rfl ?_; refine qy ?_; refine rc rfl rfl rfl rfl rfl rfl good153 (cRSize _) (CoL.refl _) rfl rfl ?_
  (iterate 2 refine qy ?_); refine rg_nil ?_; refine hw_ret ?_; refine ⟨.inr rfl, ?_⟩
  exact f9 rfl rfl (⟨ccb (bef_ne h0), trivial⟩)
 ·
  have h0 := r0
  have h0 := of_decide_eq_true (not_f h0)
  try simp only [ty] at h0
  refine hw_skip ?_; refine hw_seq ?_; refine gy ?_; (iterate 4 refine qy ?_); refine rg_nil ?_; refine hw_ret ?_; refine ⟨.inr rfl, ?_⟩
  exact f9 rfl rfl (⟨ccb (bef_eq h0), trivial⟩)
theorem good141 : goodFn Tryz.prog 141 := ⟨Tryz.f141, Tryz.func141, by kernel_rfl, by kernel_rfl⟩
theorem cIn (l : List AS) (s : AS) : HPure Tryz.prog 141 [pP (asl l), pA s] (prOf [pB (decide (s ∈ l))]) := by
 refine hpure_of (nt := 18) Tryzok Tryz.func141 rfl rfl l9 ?_; refine hw_seq ?_
 refine hw_bt 0 rfl fun hn => ?_
 refine gy ?_; refine qy ?_; refine rg_nil ?_; refine hw_joinK (ι := Unit) ⟨[], []⟩ ⟨trivial, trivial⟩ (fun _i => ⟨[], []⟩) (fun _i => decide (s ∈ l) = false) ?_ ?_
 ·
  refine hw_seq ?_; refine gy ?_; refine qy ?_; refine rg_nil ?_; refine hw_block ?_
  refine hw_loopK (ι := Nat) ⟨[(0, some _), (1, some _)], []⟩ ⟨⟨c9, c9, trivial⟩, trivial⟩ (fun i => ⟨[(5, some (vI i))], []⟩) (fun i => i ≤ l.length ∧ (∀ j, j < i → decide (l.getD j default = s) = false)) (fun i => l.length - i) (0) (⟨Nat.zero_le _, all_zero⟩) ⟨⟨zy, trivial⟩, trivial⟩ ?_
  rintro i ⟨hi, hI⟩
  (iterate 2 refine hw_seq ?_); refine gy ?_; (iterate 4 refine qy ?_); refine rg_nil ?_; refine hw_cond _ rfl (fun r0 => ?_) (fun r0 => ?_)
  ·
   have h0 := of_decide_eq_true r0
   try simp only [ty] at h0
   refine hw_skip ?_; refine hw_seq ?_; refine hw_block ?_; refine hw_seq ?_; refine gy ?_; (iterate 6 refine qy ?_); refine rg_nil ?_; refine hw_cond _ rfl (fun r1 => ?_) (fun r1 => ?_)
   ·
    have h1 := of_decide_eq_true r1
    try simp only [ty] at h1
    refine hw_seq ?_; refine gy ?_; refine qy ?_; refine rg_nil ?_; refine hw_ret ?_; refine ⟨.inr rfl, ?_⟩
    exact f9 rfl rfl (⟨ccb (by rw [← any_mem]; exact (any_t (p := fun x => decide (x = s)) (i := i) (by omega) (decide_eq_true (asI_inj.1 h1))).symm), trivial⟩)
   ·
    have h1 := of_decide_eq_false r1
    try simp only [ty] at h1
    refine hw_skip ?_; refine gy ?_; (iterate 3 refine qy ?_); refine rg_nil ?_; refine ⟨i + 1, ?_, ?_, ?_⟩
    · exact ⟨by show i + 1 ≤ _; omega, all_succ hI (decide_eq_false fun e => h1 (congrArg asI e))⟩
    · first | omega | (dsimp only; omega)
    · exact ⟨⟨zy, c9, c9, trivial⟩, trivial⟩
  ·
   have h0 := of_decide_eq_false r0
   try simp only [ty] at h0
   refine hw_exit ?_; refine ⟨(), ?_, ?_⟩
   · rw [← any_mem]; exact any_f (p := fun x => decide (x = s)) fun j hj => hI j (by omega)
   · exact ⟨trivial, trivial⟩
 · rintro _ hj
   refine hw_seq ?_; refine gy ?_; refine qy ?_; refine rg_nil ?_; refine hw_ret ?_; refine ⟨.inr rfl, ?_⟩
   exact f9 rfl rfl (⟨ccb hj.symm, trivial⟩)
theorem good201 : goodFn Tryz.prog 201 := ⟨Tryz.f201, Tryz.func201, by kernel_rfl, by kernel_rfl⟩
theorem cNanI (a : Int) : HPure Tryz.prog 201 [pI a] (prOf [pB false]) := by
 refine hpure_of (nt := 6) Tryzok Tryz.func201 rfl rfl l9 ?_; refine hw_seq ?_; refine gy ?_; refine qy ?_; refine rg_nil ?_; refine hw_seq ?_; refine gy ?_; (iterate 4 refine qy ?_); refine rg_nil ?_; refine hw_ret ?_
 refine ⟨.inr rfl, ?_⟩
 exact f9 rfl rfl (⟨ccb (by simp), trivial⟩)
theorem good202 : goodFn Tryz.prog 202 := ⟨Tryz.f202, Tryz.func202, by kernel_rfl, by kernel_rfl⟩
theorem cNanS (a : AS) : HPure Tryz.prog 202 [pA a] (prOf [pB false]) := by
 refine hpure_of (nt := 6) Tryzok Tryz.func202 rfl rfl l9 ?_; refine hw_seq ?_; refine gy ?_; refine qy ?_; refine rg_nil ?_; refine hw_seq ?_; refine gy ?_; (iterate 4 refine qy ?_); refine rg_nil ?_; refine hw_ret ?_
 refine ⟨.inr rfl, ?_⟩
 exact f9 rfl rfl (⟨ccb (by simp), trivial⟩)
theorem good163 : goodFn Tryz.prog 163 := ⟨Tryz.f163, Tryz.func163, by kernel_rfl, by kernel_rfl⟩
theorem cCmpI (a b : Int) : HPure Tryz.prog 163 [pI a, pI b] (prOf [pI (cmpI a b)]) := by
 refine hpure_of (nt := 20) Tryzok Tryz.func163 rfl rfl l9 ?_; refine hw_seq ?_; refine gy ?_; refine qy ?_; refine rg_nil ?_; refine hw_seq ?_; refine gy ?_; refine qy ?_
 refine rc rfl rfl rfl rfl rfl rfl good201 (cNanI _) (CoL.refl _) rfl rfl ?_; refine qy ?_; refine rg_nil ?_; refine hw_seq ?_; refine gy ?_; refine qy ?_; refine rc rfl rfl rfl rfl rfl rfl good201 (cNanI _) (CoL.refl _) rfl rfl ?_
 refine qy ?_; refine rg_nil ?_; (iterate 2 refine hw_seq ?_); refine gy ?_; refine qy ?_; refine rg_nil ?_; refine hw_cond _ rfl (fun e => by cases e) (fun _ => ?_); refine hw_skip ?_; (iterate 2 refine hw_seq ?_); refine gy ?_
 refine qy ?_; refine rg_nil ?_; refine hw_cond _ rfl (fun e => by cases e) (fun _ => ?_); refine hw_skip ?_; (iterate 2 refine hw_seq ?_); refine gy ?_; (iterate 3 refine qy ?_); refine rg_nil ?_
 refine hw_cond _ rfl (fun r0 => ?_) (fun r0 => ?_)
 ·
  have h0 := of_decide_eq_true r0
  try simp only [ty] at h0
  refine hw_seq ?_; refine gy ?_; refine qy ?_; refine rg_nil ?_; refine hw_ret ?_; refine ⟨.inr rfl, ?_⟩
  exact f9 rfl rfl (⟨cci (by unfold cmpI; first | (rw [if_pos (by omega)]) | (rw [if_neg (by omega), if_pos (by omega)]) | (rw [if_neg (by omega), if_neg (by omega)])), trivial⟩)
 ·
  have h0 := of_decide_eq_false r0
  try simp only [ty] at h0
  refine hw_skip ?_; (iterate 2 refine hw_seq ?_); refine gy ?_; (iterate 3 refine qy ?_); refine rg_nil ?_; refine hw_cond _ rfl (fun r1 => ?_) (fun r1 => ?_)
  ·
   have h1 := of_decide_eq_true r1
   try simp only [ty] at h1
   refine hw_seq ?_; refine gy ?_; refine qy ?_; refine rg_nil ?_; refine hw_ret ?_; refine ⟨.inr rfl, ?_⟩
   exact f9 rfl rfl (⟨cci (by unfold cmpI; first | (rw [if_pos (by omega)]) | (rw [if_neg (by omega), if_pos (by omega)]) | (rw [if_neg (by omega), if_neg (by omega)])), trivial⟩)
  ·
   have h1 := of_decide_eq_false r1
   try simp only [ty] at h1
   refine hw_skip ?_; refine hw_seq ?_; refine gy ?_; refine qy ?_; refine rg_nil ?_; refine hw_ret ?_; refine ⟨.inr rfl, ?_⟩
   exact f9 rfl rfl (⟨cci (by unfold cmpI; first | (rw [if_pos (by omega)]) | (rw [if_neg (by omega), if_pos (by omega)]) | (rw [if_neg (by omega), if_neg (by omega)])), trivial⟩)
theorem good164 : goodFn Tryz.prog 164 := ⟨Tryz.f164, Tryz.func164, by kernel_rfl, by kernel_rfl⟩
theorem cCmpS (a b : AS) : HPure Tryz.prog 164 [pA a, pA b] (prOf [pI (cmpI (asI a) (asI b))]) := by
 refine hpure_of (nt := 20) Tryzok Tryz.func164 rfl rfl l9 ?_; refine hw_seq ?_; refine gy ?_; refine qy ?_; refine rg_nil ?_; refine hw_seq ?_; refine gy ?_; refine qy ?_
 refine rc rfl rfl rfl rfl rfl rfl good202 (cNanS _) (CoL.refl _) rfl rfl ?_; refine qy ?_; refine rg_nil ?_; refine hw_seq ?_; refine gy ?_; refine qy ?_; refine rc rfl rfl rfl rfl rfl rfl good202 (cNanS _) (CoL.refl _) rfl rfl ?_
 refine qy ?_; refine rg_nil ?_; (iterate 2 refine hw_seq ?_); refine gy ?_; refine qy ?_; refine rg_nil ?_; refine hw_cond _ rfl (fun e => by cases e) (fun _ => ?_); refine hw_skip ?_; (iterate 2 refine hw_seq ?_); refine gy ?_
 refine qy ?_; refine rg_nil ?_; refine hw_cond _ rfl (fun e => by cases e) (fun _ => ?_); refine hw_skip ?_; (iterate 2 refine hw_seq ?_); refine gy ?_; (iterate 3 refine qy ?_); refine rg_nil ?_
 refine hw_cond _ rfl (fun r0 => ?_) (fun r0 => ?_)
 ·
  have h0 := of_decide_eq_true r0
  try simp only [ty] at h0
  refine hw_seq ?_; refine gy ?_; refine qy ?_; refine rg_nil ?_; refine hw_ret ?_; refine ⟨.inr rfl, ?_⟩
  exact f9 rfl rfl (⟨cci (by unfold cmpI; first | (rw [if_pos (by omega)]) | (rw [if_neg (by omega), if_pos (by omega)]) | (rw [if_neg (by omega), if_neg (by omega)])), trivial⟩)
 ·
  have h0 := of_decide_eq_false r0
  try simp only [ty] at h0
  refine hw_skip ?_; (iterate 2 refine hw_seq ?_); refine gy ?_; (iterate 3 refine qy ?_); refine rg_nil ?_; refine hw_cond _ rfl (fun r1 => ?_) (fun r1 => ?_)
  ·
   have h1 := of_decide_eq_true r1
   try simp only [ty] at h1
   refine hw_seq ?_; refine gy ?_; refine qy ?_; refine rg_nil ?_; refine hw_ret ?_; refine ⟨.inr rfl, ?_⟩
   exact f9 rfl rfl (⟨cci (by unfold cmpI; first | (rw [if_pos (by omega)]) | (rw [if_neg (by omega), if_pos (by omega)]) | (rw [if_neg (by omega), if_neg (by omega)])), trivial⟩)
  ·
   have h1 := of_decide_eq_false r1
   try simp only [ty] at h1
   refine hw_skip ?_; refine hw_seq ?_; refine gy ?_; refine qy ?_; refine rg_nil ?_; refine hw_ret ?_; refine ⟨.inr rfl, ?_⟩
   exact f9 rfl rfl (⟨cci (by unfold cmpI; first | (rw [if_pos (by omega)]) | (rw [if_neg (by omega), if_pos (by omega)]) | (rw [if_neg (by omega), if_neg (by omega)])), trivial⟩)
theorem good162 : goodFn Tryz.prog 162 := ⟨Tryz.f162, Tryz.func162, by kernel_rfl, by kernel_rfl⟩
theorem cOr (l : List Int) : HPure Tryz.prog 162 [pP (psl 1 jC l)] (prOf [pI (orF l)]) := by
 refine hpure_of (nt := 18) Tryzok Tryz.func162 rfl rfl l9 ?_; refine hw_seq ?_
 refine hw_bt 0 rfl fun hn => ?_
 refine gy ?_; refine qy ?_; refine rg_nil ?_; refine hw_seq ?_; refine gy ?_; refine qy ?_; refine rg_nil ?_
 refine hw_joinK (ι := Unit) ⟨[(3, some _)], []⟩ ⟨⟨c9, trivial⟩, trivial⟩ (fun _i => ⟨[], []⟩) (fun _i => orF l = 0) ?_ ?_
 ·
  refine hw_seq ?_; refine gy ?_; (iterate 3 refine qy ?_); refine rg_nil ?_; refine hw_block ?_
  refine hw_loopK (ι := Nat) ⟨[(3, some _), (6, some _), (7, some _)], []⟩ ⟨⟨c9, c9, c9, trivial⟩, trivial⟩ (fun i => ⟨[(8, some (vI i))], []⟩) (fun i => i ≤ l.length ∧ (∀ j, j < i → decide (l.getD j default = 0) = true)) (fun i => l.length - i) (0) (⟨Nat.zero_le _, all_zero⟩) ⟨⟨zy, trivial⟩, trivial⟩ ?_
  rintro i ⟨hi, hI⟩
  refine hw_seq ?_; refine gy ?_; refine qy ?_; refine rg_nil ?_; refine hw_seq ?_; refine hw_cond _ rfl (fun r0 => ?_) (fun r0 => ?_)
  ·
   have h0 := of_decide_eq_true r0
   try simp only [ty] at h0
   refine hw_skip ?_; refine hw_seq ?_; refine hw_block ?_; refine hw_seq ?_; refine gy ?_; (iterate 3 refine qy ?_); refine rg_nil ?_; refine hw_seq ?_; refine gy ?_; (iterate 3 refine qy ?_); refine rg_nil ?_
   refine hw_cond _ rfl (fun r1 => ?_) (fun r1 => ?_)
   ·
    have h1 := r1
    have h1 := of_decide_eq_false (not_t h1)
    try simp only [ty] at h1
    refine hw_seq ?_; refine gy ?_; (iterate 2 refine qy ?_); refine rg_nil ?_; refine hw_ret ?_; refine ⟨.inr rfl, ?_⟩
    exact f9 rfl rfl (⟨cci (orF_t (i := i) (by omega) hI h1).symm, trivial⟩)
   ·
    have h1 := r1
    have h1 := of_decide_eq_true (not_f h1)
    try simp only [ty] at h1
    refine hw_skip ?_; refine gy ?_; (iterate 2 refine qy ?_); refine rg_nil ?_; refine ⟨i + 1, ?_, ?_, ?_⟩
    · exact ⟨by show i + 1 ≤ _; omega, all_succ hI (decide_eq_true h1)⟩
    · first | omega | (dsimp only; omega)
    · exact ⟨⟨zy, c9, c9, c9, trivial⟩, trivial⟩
  ·
   have h0 := of_decide_eq_false r0
   try simp only [ty] at h0
   refine hw_exit ?_; refine ⟨(), ?_, ?_⟩
   · exact orF_f fun j hj => hI j (by omega)
   · exact ⟨⟨c9, trivial⟩, trivial⟩
 · rintro _ hj
   refine hw_seq ?_; refine gy ?_; (iterate 2 refine qy ?_); refine rg_nil ?_; refine hw_ret ?_; refine ⟨.inr rfl, ?_⟩
   exact f9 rfl rfl (⟨cci hj.symm, trivial⟩)
theorem cCompare (a b : AS) : HPure Tryz.prog 113 [pA a, pA b] (prOf [pI (cmpS a b)]) := by
 refine hpure_of (nt := 15) Tryzok Tryz.func113 rfl rfl l9 ?_; refine hw_seq ?_; refine gy ?_; refine qy ?_; refine rg_nil ?_; refine hw_seq ?_; refine gy ?_; refine qy ?_
 refine rc rfl rfl rfl rfl rfl rfl good106 (cSize _) (CoL.refl _) rfl rfl ?_; refine qy ?_; refine rc rfl rfl rfl rfl rfl rfl good106 (cSize _) (CoL.refl _) rfl rfl ?_
 refine rc rfl rfl rfl rfl rfl rfl good163 (cCmpI _ _) (CoL.refl _) rfl rfl ?_; (iterate 2 refine qy ?_); refine rc rfl rfl rfl rfl rfl rfl good164 (cCmpS _ _) (CoL.refl _) rfl rfl ?_; refine m9 0 ?_
 refine rc rfl rfl rfl rfl rfl rfl good162 (cOr [cmpI (bsz a) (bsz b), cmpI (asI a) (asI b)]) (⟨CoC.one (co_lit2 (CoP.refl _) (CoP.refl _)), trivial⟩) rfl rfl ?_; refine qy ?_; refine rg_nil ?_; refine hw_ret ?_
 refine ⟨.inr rfl, ?_⟩
 exact f9 rfl rfl (⟨cci (cmpS_or a b), trivial⟩)
theorem good94 : goodFn Tryz.prog 94 := ⟨Tryz.f94, Tryz.func94, by kernel_rfl, by kernel_rfl⟩
theorem cROrder (l : List AS) (hl : l.length ≤ 8589934592) : HPure Tryz.prog 94 [pP (asl l)] (prOf [pP (asl (ord l))]) := by
 refine hpure_of (nt := 61) Tryzok Tryz.func94 rfl rfl l9 ?_; refine hw_seq ?_
 refine hw_bt 0 rfl fun hn => ?_
 refine gy ?_; refine qy ?_; refine rg_nil ?_; refine hw_seq ?_; refine gy ?_; refine qy ?_; refine rg_nil ?_; (iterate 2 refine hw_seq ?_); refine gy ?_; refine qy ?_; refine rg_nil ?_; refine hw_block ?_
 refine hw_adopt 3 900 true 1 38 (lf sC []) (by decide) rfl (CoP.sl rfl (.inr rfl) (fun h => h) (fun i j hi _ => absurd hi (Nat.not_lt_zero i))) (.inr rfl) rfl ?_
 refine hw_loopK (ι := Nat) ⟨[(0, some _)], []⟩ ⟨⟨c9, trivial⟩, trivial⟩ (fun i => ⟨[(3, some (.v (.one (.ref 900 (ord (l.take i)).length)))), (4, some (vI i))], [(900, some (.arr true 1 38 (ord (l.take i)).length (lf sC (ord (l.take i)))))]⟩) (fun i => i ≤ l.length) (fun i => l.length - i) (0) (Nat.zero_le _) ⟨⟨zy, zy, trivial⟩, ⟨u9, trivial⟩⟩ ?_
 rintro i hi
 have hlen := ord_len (l.take i)
 rw [List.length_take] at hlen
 (iterate 2 refine hw_seq ?_); refine gy ?_; (iterate 4 refine qy ?_); refine rg_nil ?_; refine hw_cond _ rfl (fun r0 => ?_) (fun r0 => ?_)
 ·
  have h0 := of_decide_eq_true r0
  try simp only [ty] at h0
  refine hw_skip ?_; refine hw_seq ?_; refine hw_block ?_; (iterate 2 refine hw_seq ?_); refine gy ?_; (iterate 5 refine qy ?_)
  refine rc rfl rfl rfl rfl rfl rfl good141 (cIn (ord (l.take i)) (l.getD i default)) (CoL.refl _) rfl rfl ?_; refine rg_nil ?_; refine hw_cond _ rfl (fun r1 => ?_) (fun r1 => ?_)
  ·
   have h1 := r1
   have hin := of_decide_eq_true h1
   refine hw_exit ?_; refine gy ?_; (iterate 3 refine qy ?_); refine rg_nil ?_
   first | (refine ⟨i + 1, ?_, ?_, ?_⟩
            · show i + 1 ≤ _; omega
            · first | omega | (dsimp only; omega)
            · exact ⟨⟨⟨_, rfl, (ref_same (by rw [ord_take (by omega), insO_mem (ordd_ord _) hin]))⟩, zy, c9, trivial⟩, ⟨⟨_, rfl, (arr_same (by rw [ord_take (by omega), insO_mem (ordd_ord _) hin]))⟩, trivial⟩⟩)
         | (refine ⟨i + 1, ?_, ?_, ?_⟩
            · show i + 1 ≤ _; omega
            · first | omega | (dsimp only; omega)
            · exact ⟨⟨⟨_, rfl, (ref_len (by rw [ord_take (by omega), ← hfin, insK_len hk]))⟩, zy, c9, trivial⟩, ⟨⟨_, rfl, (arr_len (by rw [ord_take (by omega), ← hfin]) (by rw [ord_take (by omega), ← hfin, insK_len hk]))⟩, trivial⟩⟩)
  ·
   have h1 := r1
   have hin := of_decide_eq_false h1
   refine hw_skip ?_; refine hw_seq ?_; refine gy ?_; (iterate 5 refine qy ?_); refine m9 0 ?_; refine ra 1 true rfl rfl rfl rfl rfl rfl ?_; refine qy ?_; refine rg_nil ?_; refine hw_seq ?_; refine gy ?_; (iterate 4 refine qy ?_)
   refine rg_nil ?_; refine hw_block ?_
   refine hw_loopK (ι := Nat) ⟨[(0, some _), (3, some _), (4, some _)], []⟩ ⟨⟨c9, c9, c9, trivial⟩, trivial⟩ (fun k => ⟨[(5, some (vI k))], [(900, some (.arr true 1 38 ((ord (l.take i)).length + 1) (lf sC (insK (ord (l.take i)) k (l.getD i default)))))]⟩) (fun k => k ≤ (ord (l.take i)).length ∧ ∀ j, k ≤ j → j < (ord (l.take i)).length → bef (l.getD i default) ((ord (l.take i)).getD j default) = true) (fun k => k) ((ord (l.take i)).length) (⟨Nat.le_refl _, fun j h1 h2 => by omega⟩) ⟨⟨zy, trivial⟩, ⟨⟨_, rfl, (by rw [insK_end]; exact app_end (CoP.refl _))⟩, trivial⟩⟩ ?_
   rintro k ⟨hk, hK⟩
   (iterate 2 refine hw_seq ?_); refine hw_draw (E := TryzE) Tryzok Tryzmixed [0, 1, 2, 3, 4, 5, 6, 7, 8, 9, 10, 11, 12, 13] ?_; (iterate 3 refine qy ?_); refine rsplit rfl rfl (fun r2 => ?_) (fun r2 => ?_)
   ·
    have h2 := of_decide_eq_true r2
    try simp only [ty] at h2
    (iterate 9 refine qy ?_ (hg := (gtt r2))); refine rc rfl rfl rfl rfl rfl rfl good142 (cBefore _ _) (CoL.refl _) rfl (gtt r2) ?_; refine qy ?_; refine rg_nil ?_; refine ⟨by kernel_rfl, ?_⟩
    refine hw_cond _ rfl (fun r3 => ?_) (fun r3 => ?_)
    ·
     have h3 := r3
     have h3 := bif_t r2 h3
     have hb := bef_at (by omega) hk h3 (by omega) (by omega)
     refine hw_skip ?_; refine hw_seq ?_; refine hw_block ?_; refine hw_draw (E := TryzE) Tryzok Tryzmixed [0, 1, 5, 6, 7, 8, 9, 10, 11, 12, 13, 14, 15, 2, 3, 4, 16, 17] ?_; (iterate 12 refine qy ?_); refine s9 ?_
     (iterate 4 refine qy ?_); refine s9 ?_; refine rg_nil ?_; refine ⟨by kernel_rfl, ?_⟩; refine gy ?_; (iterate 3 refine qy ?_); refine rg_nil ?_; refine ⟨k - 1, ?_, ?_, ?_⟩
     · refine ⟨by omega, fun j h1 h2 => ?_⟩
       by_cases hj : j = k - 1
       · rw [hj]; exact hb
       · exact hK j (by omega) h2
     · show k - 1 < k
       omega
     · exact ⟨⟨zy, c9, c9, c9, trivial⟩, ⟨⟨_, rfl, (swap_insK (by omega) hk (by omega) (by omega) rfl)⟩, trivial⟩⟩
    ·
     have h3 := r3
     have h3 := bif_t r2 h3
     have hb := bef_at (by omega) hk h3 (by omega) (by omega)
     have hfin := insK_insO (ordd_ord _) hin hk hK (.inr (by rw [hb]; decide))
     refine hw_exit ?_; refine gy ?_; (iterate 3 refine qy ?_); refine rg_nil ?_
     first | (refine ⟨i + 1, ?_, ?_, ?_⟩
              · show i + 1 ≤ _; omega
              · first | omega | (dsimp only; omega)
              · exact ⟨⟨⟨_, rfl, (ref_same (by rw [ord_take (by omega), insO_mem (ordd_ord _) hin]))⟩, zy, c9, trivial⟩, ⟨⟨_, rfl, (arr_same (by rw [ord_take (by omega), insO_mem (ordd_ord _) hin]))⟩, trivial⟩⟩)
           | (refine ⟨i + 1, ?_, ?_, ?_⟩
              · show i + 1 ≤ _; omega
              · first | omega | (dsimp only; omega)
              · exact ⟨⟨⟨_, rfl, (ref_len (by rw [ord_take (by omega), ← hfin, insK_len hk]))⟩, zy, c9, trivial⟩, ⟨⟨_, rfl, (arr_len (by rw [ord_take (by omega), ← hfin]) (by rw [ord_take (by omega), ← hfin, insK_len hk]))⟩, trivial⟩⟩)
   ·
    have h2 := of_decide_eq_false r2
    try simp only [ty] at h2
    have hfin := insK_insO (ordd_ord _) hin hk hK (.inl (by omega))
    (iterate 10 refine k9 (gft r2) ?_); refine rq rfl rfl rfl rfl rfl ?_ (hp := r2); refine rg_nil ?_; refine ⟨by kernel_rfl, ?_⟩; refine hw_cond _ rfl (fun e => by cases e) (fun _ => ?_); refine hw_exit ?_; refine gy ?_
    (iterate 3 refine qy ?_); refine rg_nil ?_
    first | (refine ⟨i + 1, ?_, ?_, ?_⟩
             · show i + 1 ≤ _; omega
             · first | omega | (dsimp only; omega)
             · exact ⟨⟨⟨_, rfl, (ref_same (by rw [ord_take (by omega), insO_mem (ordd_ord _) hin]))⟩, zy, c9, trivial⟩, ⟨⟨_, rfl, (arr_same (by rw [ord_take (by omega), insO_mem (ordd_ord _) hin]))⟩, trivial⟩⟩)
          | (refine ⟨i + 1, ?_, ?_, ?_⟩
             · show i + 1 ≤ _; omega
             · first | omega | (dsimp only; omega)
             · exact ⟨⟨⟨_, rfl, (ref_len (by rw [ord_take (by omega), ← hfin, insK_len hk]))⟩, zy, c9, trivial⟩, ⟨⟨_, rfl, (arr_len (by rw [ord_take (by omega), ← hfin]) (by rw [ord_take (by omega), ← hfin, insK_len hk]))⟩, trivial⟩⟩)
 ·
  have h0 := of_decide_eq_false r0
  try simp only [ty] at h0
  obtain rfl : i = l.length := by omega
  refine hw_exit ?_; refine hw_seq ?_; refine gy ?_; (iterate 2 refine qy ?_); refine rg_nil ?_; refine hw_freeze 2 rfl rfl rfl ?_; refine hw_ret ?_; refine ⟨.inr rfl, ?_⟩
  exact f9 rfl rfl (⟨CoC.one (CoP.of_eq (by rw [List.take_length]; rfl)), trivial⟩)
end Go.Hx
end
