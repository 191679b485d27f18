/- A part of the proof: lemmas for the theorem of this claim, merged by a program of ours out of V5, Cs2, Cs6. -/
import Derived.Lib.TrailingZeros
import Derived.Test.YtidophngianjiaaGreatDoorP17
import Derived.Test.YtidophngianjiaaGreatDoorP18
set_option linter.all false
section
namespace Go.Hx
open Go.Proofs
set_option maxRecDepth 100000
set_option maxHeartbeats 1000000
theorem good171 : goodFn Tryz.prog 171 := ⟨Tryz.f171, Tryz.func171, by kernel_rfl, by kernel_rfl⟩
theorem cHas (s : AS) (i : Int) : HPure Tryz.prog 171 [pA s, pI i] (prOf [pB (hasI s i)]) := by
 refine hpure_of (nt := 18) Tryzok Tryz.func171 rfl rfl l9 ?_; refine hw_seq ?_; refine gy ?_; refine qy ?_; refine rg_nil ?_; refine hw_seq ?_; refine gy ?_; (iterate 3 refine qy ?_)
 refine rsplit rfl rfl (fun r0 => ?_) (fun r0 => ?_)
 ·
  have h0 := of_decide_eq_true r0
  try simp only [ty] at h0
  (iterate 2 refine qy ?_ (hg := (gtt r0))); (iterate 2 refine qy ?_); refine rsplit rfl rfl (fun r1 => ?_) (fun r1 => ?_)
  ·
   have h1 := r1
   have h1 := bif_t r0 h1
   have h1 := of_decide_eq_true h1
   try simp only [ty] at h1
   (iterate 5 refine qy ?_ (hg := (gtt r1))); (iterate 2 refine qy ?_); refine rg_nil ?_; refine hw_ret ?_; refine ⟨.inr rfl, ?_⟩
   exact f9 rfl rfl (⟨ccb (by first | exact bif_tk (by assumption) (has_v (by omega) (by omega)) | exact (hasI_f (by omega)).symm), trivial⟩)
  ·
   have h1 := r1
   have h1 := bif_t r0 h1
   have h1 := of_decide_eq_false h1
   try simp only [ty] at h1
   (iterate 5 refine k9 (gft r1) ?_); refine rq rfl rfl rfl rfl rfl ?_ (hp := r1); refine qy ?_; refine rg_nil ?_; refine hw_ret ?_; refine ⟨.inr rfl, ?_⟩
   exact f9 rfl rfl (⟨ccb (by first | exact bif_tk (by assumption) (has_v (by omega) (by omega)) | exact (hasI_f (by omega)).symm), trivial⟩)
 ·
  have h0 := of_decide_eq_false r0
  try simp only [ty] at h0
  (iterate 2 refine k9 (gft r0) ?_); refine rq rfl rfl rfl rfl rfl ?_ (hp := r0); refine qy ?_; (iterate 5 refine k9 rfl ?_); (iterate 2 refine qy ?_); refine rg_nil ?_; refine hw_ret ?_; refine ⟨.inr rfl, ?_⟩
  exact f9 rfl rfl (⟨ccb (by first | exact bif_tk (by assumption) (has_v (by omega) (by omega)) | exact (hasI_f (by omega)).symm), trivial⟩)
theorem good138 : goodFn Tryz.prog 138 := ⟨Tryz.f138, Tryz.func138, by kernel_rfl, by kernel_rfl⟩
theorem cKFull (n : Int) (h0 : 0 ≤ n) (h1 : n ≤ 16) : HPure Tryz.prog 138 [pI n] (prOf [pA (fullI n)]) := by
 refine hpure_of (nt := 6) Tryzok Tryz.func138 rfl rfl l9 ?_; refine hw_seq ?_; refine gy ?_; refine qy ?_; refine rg_nil ?_; refine hw_seq ?_; refine gy ?_; (iterate 2 refine qy ?_)
 refine rq rfl rfl rfl rfl rfl ?_ (hp := ⟨full_pre h0 h1, full_pre2 h0 h1⟩); refine qy ?_; refine rg_nil ?_; refine hw_ret ?_; refine ⟨.inr rfl, ?_⟩
 exact f9 rfl rfl (⟨cci (full_v h0 h1), trivial⟩)
theorem good61 : goodFn Tryz.prog 61 := ⟨Tryz.f61, Tryz.func61, by kernel_rfl, by kernel_rfl⟩
theorem cUniv (n : Int) (h0 : 0 ≤ n) (h1 : n ≤ 16) : HPure Tryz.prog 61 [pI n] (prOf [pA (fullI n)]) := by
 refine hpure_of (nt := 6) Tryzok Tryz.func61 rfl rfl l9 ?_; refine hw_seq ?_; refine gy ?_; refine qy ?_; refine rg_nil ?_; refine hw_seq ?_; refine gy ?_; (iterate 2 refine qy ?_)
 refine rq rfl rfl rfl rfl rfl ?_ (hp := ⟨full_pre h0 h1, full_pre2 h0 h1⟩); refine qy ?_; refine rg_nil ?_; refine hw_ret ?_; refine ⟨.inr rfl, ?_⟩
 exact f9 rfl rfl (⟨cci (full_v h0 h1), trivial⟩)
theorem good63 : goodFn Tryz.prog 63 := ⟨Tryz.f63, Tryz.func63, by kernel_rfl, by kernel_rfl⟩
theorem cRErr (n : Int) (l : List Fd) (m : Int) : HPure Tryz.prog 63 [pI n, pP (fdl l), pI m] (prOf [pI (errS n l m)]) := by
 refine hpure_of (nt := 17) Tryzok Tryz.func63 rfl rfl l9 ?_; refine hw_seq ?_; refine gy ?_; refine qy ?_; refine rg_nil ?_; (iterate 2 refine hw_seq ?_); refine gy ?_; (iterate 2 refine qy ?_)
 refine rc rfl rfl rfl rfl rfl rfl good40 (cRValid n l) (CoL.refl _) rfl rfl ?_; refine qy ?_; refine rg_nil ?_; refine hw_seq ?_; refine gy ?_; (iterate 2 refine qy ?_); refine rg_nil ?_
 refine hw_cond _ rfl (fun r0 => ?_) (fun r0 => ?_)
 ·
  have h0 := r0
  have h0 := of_decide_eq_false (not_t h0)
  try simp only [ty] at h0
  refine hw_seq ?_; refine gy ?_; (iterate 2 refine qy ?_); refine rg_nil ?_; refine hw_ret ?_; refine ⟨.inr rfl, ?_⟩
  exact f9 rfl rfl (⟨cci (by unfold errS; first | (rw [if_neg (by assumption)]) | (rw [if_pos (by omega), if_pos (by omega)]) | (rw [if_pos (by omega), if_neg (by omega)])), trivial⟩)
 ·
  have h0 := r0
  have h0 := of_decide_eq_true (not_f h0)
  try simp only [ty] at h0
  refine hw_skip ?_; (iterate 2 refine hw_seq ?_); refine gy ?_; (iterate 3 refine qy ?_); refine rg_nil ?_; refine hw_cond _ rfl (fun r1 => ?_) (fun r1 => ?_)
  ·
   have h1 := of_decide_eq_true r1
   try simp only [ty] at h1
   refine hw_seq ?_; refine gy ?_; refine qy ?_; refine rg_nil ?_; refine hw_ret ?_; refine ⟨.inr rfl, ?_⟩
   exact f9 rfl rfl (⟨cci (by unfold errS; first | (rw [if_neg (by assumption)]) | (rw [if_pos (by omega), if_pos (by omega)]) | (rw [if_pos (by omega), if_neg (by omega)])), trivial⟩)
  ·
   have h1 := of_decide_eq_false r1
   try simp only [ty] at h1
   refine hw_skip ?_; refine hw_seq ?_; refine gy ?_; refine qy ?_; refine rg_nil ?_; refine hw_ret ?_; refine ⟨.inr rfl, ?_⟩
   exact f9 rfl rfl (⟨cci (by unfold errS; first | (rw [if_neg (by assumption)]) | (rw [if_pos (by omega), if_pos (by omega)]) | (rw [if_pos (by omega), if_neg (by omega)])), trivial⟩)
theorem good60 : goodFn Tryz.prog 60 := ⟨Tryz.f60, Tryz.func60, by kernel_rfl, by kernel_rfl⟩
theorem cLim (n : Int) (l : List Fd) : HPure Tryz.prog 60 [pI n, pP (fdl l)] (prOf [pI (errS n l 8)]) := by
 refine hpure_of (nt := 14) Tryzok Tryz.func60 rfl rfl l9 ?_; refine hw_seq ?_; refine gy ?_; refine qy ?_; refine rg_nil ?_; (iterate 2 refine hw_seq ?_); refine gy ?_; (iterate 2 refine qy ?_)
 refine rc rfl rfl rfl rfl rfl rfl good82 (cValid n l) (CoL.refl _) rfl rfl ?_; refine qy ?_; refine rg_nil ?_; refine hw_seq ?_; refine gy ?_; (iterate 2 refine qy ?_); refine rg_nil ?_
 refine hw_cond _ rfl (fun r0 => ?_) (fun r0 => ?_)
 ·
  have h0 := r0
  have h0 := of_decide_eq_false (not_t h0)
  try simp only [ty] at h0
  refine hw_seq ?_; refine gy ?_; (iterate 2 refine qy ?_); refine rg_nil ?_; refine hw_ret ?_; refine ⟨.inr rfl, ?_⟩
  exact f9 rfl rfl (⟨cci (by unfold errS; first | (rw [if_neg (by assumption)]) | (rw [if_pos (by omega), if_pos (by omega)]) | (rw [if_pos (by omega), if_neg (by omega)])), trivial⟩)
 ·
  have h0 := r0
  have h0 := of_decide_eq_true (not_f h0)
  try simp only [ty] at h0
  refine hw_skip ?_; (iterate 2 refine hw_seq ?_); refine gy ?_; (iterate 2 refine qy ?_); refine rg_nil ?_; refine hw_cond _ rfl (fun r1 => ?_) (fun r1 => ?_)
  ·
   have h1 := of_decide_eq_true r1
   try simp only [ty] at h1
   refine hw_seq ?_; refine gy ?_; refine qy ?_; refine rg_nil ?_; refine hw_ret ?_; refine ⟨.inr rfl, ?_⟩
   exact f9 rfl rfl (⟨cci (by unfold errS; first | (rw [if_neg (by assumption)]) | (rw [if_pos (by omega), if_pos (by omega)]) | (rw [if_pos (by omega), if_neg (by omega)])), trivial⟩)
  ·
   have h1 := of_decide_eq_false r1
   try simp only [ty] at h1
   refine hw_skip ?_; refine hw_seq ?_; refine gy ?_; refine qy ?_; refine rg_nil ?_; refine hw_ret ?_; refine ⟨.inr rfl, ?_⟩
   exact f9 rfl rfl (⟨cci (by unfold errS; first | (rw [if_neg (by assumption)]) | (rw [if_pos (by omega), if_pos (by omega)]) | (rw [if_pos (by omega), if_neg (by omega)])), trivial⟩)
theorem good88 : goodFn Tryz.prog 88 := ⟨Tryz.f88, Tryz.func88, by kernel_rfl, by kernel_rfl⟩
theorem cSkey (n : Int) (l : List Fd) (s : AS) : HPure Tryz.prog 88 [pI n, pP (fdl l), pA s] (prOf [pB (skey n l s)]) := by
 refine hpure_of (nt := 25) Tryzok Tryz.func88 rfl rfl l9 ?_; refine hw_seq ?_; refine gy ?_; refine qy ?_; refine rg_nil ?_; refine hw_seq ?_; refine gy ?_; (iterate 2 refine qy ?_)
 refine rc rfl rfl rfl rfl rfl rfl good82 (cValid n l) (CoL.refl _) rfl rfl ?_; (iterate 2 refine qy ?_); refine rsplit rfl rfl (fun r0 => ?_) (fun r0 => ?_)
 ·
  have h0 := of_decide_eq_true r0
  try simp only [ty] at h0
  obtain ⟨hv0, hv1, _, _⟩ := vErr_ok h0
  (iterate 4 refine qy ?_ (hg := (gtt r0))); (iterate 2 refine qy ?_); refine rsplit rfl rfl (fun r1 => ?_) (fun r1 => ?_)
  ·
   have h1 := r1
   have h1 := bif_t r0 h1
   have h1 := of_decide_eq_true h1
   try simp only [ty] at h1
   (iterate 2 refine qy ?_ (hg := (gtt r1))); refine rc rfl rfl rfl rfl rfl rfl good119 (cClose l s) (CoL.refl _) rfl (gtt r1) ?_; refine qy ?_ (hg := (gtt r1))
   refine rc rfl rfl rfl rfl rfl rfl good138 (cKFull n (vErr_ok (by assumption)).1 (vErr_ok (by assumption)).2.1) (CoL.refl _) rfl (gtt r1) ?_; refine qy ?_ (hg := (gtt r1)); (iterate 2 refine qy ?_); refine rg_nil ?_
   refine hw_ret ?_; refine ⟨.inr rfl, ?_⟩
   exact f9 rfl rfl (⟨ccb (by first | exact bif_tk (by assumption) (sk_t (by assumption) (by assumption)) | exact (sk_f1 (by assumption)).symm | exact (sk_f2 (by assumption) (by assumption)).symm), trivial⟩)
  ·
   have h1 := r1
   have h1 := bif_t r0 h1
   have h1 := of_decide_eq_false h1
   try simp only [ty] at h1
   (iterate 6 refine k9 (gft r1) ?_); refine rq rfl rfl rfl rfl rfl ?_ (hp := r1); refine qy ?_; refine rg_nil ?_; refine hw_ret ?_; refine ⟨.inr rfl, ?_⟩
   exact f9 rfl rfl (⟨ccb (by first | exact bif_tk (by assumption) (sk_t (by assumption) (by assumption)) | exact (sk_f1 (by assumption)).symm | exact (sk_f2 (by assumption) (by assumption)).symm), trivial⟩)
 ·
  have h0 := of_decide_eq_false r0
  try simp only [ty] at h0
  (iterate 4 refine k9 (gft r0) ?_); refine rq rfl rfl rfl rfl rfl ?_ (hp := r0); refine qy ?_; (iterate 6 refine k9 rfl ?_); (iterate 2 refine qy ?_); refine rg_nil ?_; refine hw_ret ?_; refine ⟨.inr rfl, ?_⟩
  exact f9 rfl rfl (⟨ccb (by first | exact bif_tk (by assumption) (sk_t (by assumption) (by assumption)) | exact (sk_f1 (by assumption)).symm | exact (sk_f2 (by assumption) (by assumption)).symm), trivial⟩)
theorem good127 : goodFn Tryz.prog 127 := ⟨Tryz.f127, Tryz.func127, by kernel_rfl, by kernel_rfl⟩
theorem cRSkey (n : Int) (l : List Fd) (s : AS) : HPure Tryz.prog 127 [pI n, pP (fdl l), pA s] (prOf [pB (skey n l s)]) := by
 refine hpure_of (nt := 24) Tryzok Tryz.func127 rfl rfl l9 ?_; refine hw_seq ?_; refine gy ?_; refine qy ?_; refine rg_nil ?_
 refine hw_joinK (ι := Unit) ⟨[(0, some _), (1, some _), (2, some _)], []⟩ ⟨⟨c9, c9, c9, trivial⟩, trivial⟩ (fun _i => ⟨[], []⟩) (fun _i => vErr n l = 0 ∧ sub s (fullI n)) ?_ ?_
 ·
  refine hw_seq ?_; refine gy ?_; (iterate 2 refine qy ?_); refine rc rfl rfl rfl rfl rfl rfl good40 (cRValid n l) (CoL.refl _) rfl rfl ?_; (iterate 2 refine qy ?_); refine rsplit rfl rfl (fun r0 => ?_) (fun r0 => ?_)
  ·
   have h0 := r0
   have h0 := of_decide_eq_false (not_t h0)
   try simp only [ty] at h0
   (iterate 5 refine k9 (gtf r0) ?_); refine rq rfl rfl rfl rfl rfl ?_ (hp := r0); refine rg_nil ?_; refine hw_cond _ rfl (fun _ => ?_) (fun e => by cases e); refine hw_seq ?_; refine gy ?_; refine qy ?_; refine rg_nil ?_
   refine hw_ret ?_; refine ⟨.inr rfl, ?_⟩
   exact f9 rfl rfl (⟨ccb (by first | exact (sk_f1 (by assumption)).symm | exact (sk_g (by assumption)).symm), trivial⟩)
  ·
   have h0 := r0
   have h0 := of_decide_eq_true (not_f h0)
   try simp only [ty] at h0
   (iterate 2 refine qy ?_ (hg := (gff r0))); refine rc rfl rfl rfl rfl rfl rfl good20 (cRFull n) (CoL.refl _) rfl (gff r0) ?_; (iterate 2 refine qy ?_ (hg := (gff r0))); refine qy ?_; refine rg_nil ?_
   refine hw_cond _ rfl (fun r1 => ?_) (fun r1 => ?_)
   ·
    have h1 := r1
    have h1 := bif_f r0 h1
    have h1 := of_decide_eq_false (not_t h1)
    try simp only [ty] at h1
    refine hw_seq ?_; refine gy ?_; refine qy ?_; refine rg_nil ?_; refine hw_ret ?_; refine ⟨.inr rfl, ?_⟩
    exact f9 rfl rfl (⟨ccb (by first | exact (sk_f1 (by assumption)).symm | exact (sk_g (by assumption)).symm), trivial⟩)
   ·
    have h1 := r1
    have h1 := bif_f r0 h1
    have h1 := of_decide_eq_true (not_f h1)
    try simp only [ty] at h1
    refine hw_skip ?_; refine ⟨(), ?_, ?_⟩
    · exact ⟨by assumption, sub_iff_not.1 (by omega)⟩
    · exact ⟨⟨c9, c9, c9, trivial⟩, trivial⟩
 · rintro _ hj
   refine hw_seq ?_; refine gy ?_; (iterate 2 refine qy ?_); refine rc rfl rfl rfl rfl rfl rfl good128 (cRClose l s) (CoL.refl _) rfl rfl ?_; refine qy ?_; refine rc rfl rfl rfl rfl rfl rfl good20 (cRFull n) (CoL.refl _) rfl rfl ?_
   (iterate 2 refine qy ?_); refine rg_nil ?_; refine hw_ret ?_; refine ⟨.inr rfl, ?_⟩
   exact f9 rfl rfl (⟨ccb (sk_u hj.1 hj.2), trivial⟩)
theorem good32 : goodFn Tryz.prog 32 := ⟨Tryz.f32, Tryz.func32, by kernel_rfl, by kernel_rfl⟩
theorem cSameS (a b : List AS) : HPure Tryz.prog 32 [pP (asl a), pP (asl b)] (prOf [pB (decide (a = b))]) := by
 refine hpure_of (nt := 26) Tryzok Tryz.func32 rfl rfl l9 ?_; refine hw_seq ?_
 refine hw_bt 0 rfl fun hn => ?_
 refine gy ?_; refine qy ?_; refine rg_nil ?_; (iterate 2 refine hw_seq ?_); refine gy ?_; (iterate 5 refine qy ?_); refine rg_nil ?_; refine hw_cond _ rfl (fun r0 => ?_) (fun r0 => ?_)
 ·
  have h0 := r0
  have h0 := of_decide_eq_false (not_t h0)
  try simp only [ty] at h0
  refine hw_seq ?_; refine gy ?_; refine qy ?_; refine rg_nil ?_; refine hw_ret ?_; refine ⟨.inr rfl, ?_⟩
  exact f9 rfl rfl (⟨ccb (decide_eq_false fun e => by subst e; omega).symm, trivial⟩)
 ·
  have h0 := r0
  have h0 := of_decide_eq_true (not_f h0)
  try simp only [ty] at h0
  refine hw_skip ?_; refine hw_joinK (ι := Unit) ⟨[], []⟩ ⟨trivial, trivial⟩ (fun _i => ⟨[], []⟩) (fun _i => a = b) ?_ ?_
  ·
   refine hw_seq ?_; refine gy ?_; refine qy ?_; refine rg_nil ?_; refine hw_block ?_
   refine hw_loopK (ι := Nat) ⟨[(0, some _), (1, some _)], []⟩ ⟨⟨c9, c9, trivial⟩, trivial⟩ (fun i => ⟨[(5, some (vI i))], []⟩) (fun i => i ≤ a.length ∧ (∀ j, j < i → decide (a.getD j default = b.getD j default) = true)) (fun i => a.length - i) (0) (⟨Nat.zero_le _, all_zero⟩) ⟨⟨zy, trivial⟩, trivial⟩ ?_
   rintro i ⟨hi, hI⟩
   (iterate 2 refine hw_seq ?_); refine gy ?_; (iterate 4 refine qy ?_); refine rg_nil ?_; refine hw_cond _ rfl (fun r1 => ?_) (fun r1 => ?_)
   ·
    have h1 := of_decide_eq_true r1
    try simp only [ty] at h1
    refine hw_skip ?_; refine hw_seq ?_; refine hw_block ?_; refine hw_seq ?_; refine hw_draw (E := TryzE) Tryzok Tryzmixed [0, 1, 2, 3, 4, 5, 6, 7, 8] ?_; (iterate 9 refine qy ?_); refine rg_nil ?_; refine ⟨by kernel_rfl, ?_⟩
    refine hw_cond _ rfl (fun r2 => ?_) (fun r2 => ?_)
    ·
     have h2 := r2
     have h2 := of_decide_eq_false (not_t h2)
     try simp only [ty] at h2
     refine hw_seq ?_; refine gy ?_; refine qy ?_; refine rg_nil ?_; refine hw_ret ?_; refine ⟨.inr rfl, ?_⟩
     exact f9 rfl rfl (⟨ccb (decide_eq_false fun e => by subst e; simp_all).symm, trivial⟩)
    ·
     have h2 := r2
     have h2 := of_decide_eq_true (not_f h2)
     try simp only [ty] at h2
     refine hw_skip ?_; refine gy ?_; (iterate 3 refine qy ?_); refine rg_nil ?_; refine ⟨i + 1, ?_, ?_, ?_⟩
     · exact ⟨by show i + 1 ≤ _; omega, all_succ hI (decide_eq_true (asI_inj.1 h2))⟩
     · first | omega | (dsimp only; omega)
     · exact ⟨⟨zy, c9, c9, trivial⟩, trivial⟩
   ·
    have h1 := of_decide_eq_false r1
    try simp only [ty] at h1
    refine hw_exit ?_; refine ⟨(), ?_, ?_⟩
    · exact asl_same (by omega) fun j hj => hI j (by omega)
    · exact ⟨trivial, trivial⟩
  · rintro _ hj
    refine hw_seq ?_; refine gy ?_; refine qy ?_; refine rg_nil ?_; refine hw_ret ?_; refine ⟨.inr rfl, ?_⟩
    exact f9 rfl rfl (⟨ccb (decide_eq_true hj).symm, trivial⟩)
end Go.Hx
end
section
namespace Go.Hx
def bsz (s : AS) : Nat := (List.range 32).countP fun i => s.getLsbD i
def bef (a b : AS) : Bool := decide (bsz a < bsz b) || (decide (bsz a = bsz b) && decide (a.toNat < b.toNat))
theorem bef_irr (a : AS) : bef a a = false := by simp [bef]
theorem bef_iff {a b : AS} : bef a b = true ↔ bsz a < bsz b ∨ (bsz a = bsz b ∧ a.toNat < b.toNat) := by simp [bef]
theorem bef_trans {a b c : AS} (h : bef a b = true) (k : bef b c = true) : bef a c = true := by
 rw [bef_iff] at *
 omega
theorem bef_tri {a b : AS} (h : a ≠ b) : bef a b = true ∨ bef b a = true := by
 have hn : a.toNat ≠ b.toNat := fun e => h (BitVec.eq_of_toNat_eq e)
 rw [bef_iff, bef_iff]
 omega
theorem bef_asym {a b : AS} (h : bef a b = true) : bef b a = false := by
 rw [Bool.eq_false_iff]
 intro k
 have := bef_trans h k
 rw [bef_irr] at this
 cases this
def Ordd (l : List AS) : Prop := l.Pairwise fun a b => bef a b = true
theorem ordd_unique : ∀ {l k : List AS}, Ordd l → Ordd k → (∀ x, x ∈ l ↔ x ∈ k) → l = k
 | [], [], _, _, _ => rfl
 | [], y :: k, _, _, h => absurd ((h y).2 (List.mem_cons_self ..)) (by simp)
 | x :: l, [], _, _, h => absurd ((h x).1 (List.mem_cons_self ..)) (by simp)
 | x :: l, y :: k, hl, hk, h => by
  obtain ⟨h1, h2⟩ := List.pairwise_cons.1 hl
  obtain ⟨k1, k2⟩ := List.pairwise_cons.1 hk
  have e : x = y := by
   rcases List.mem_cons.1 ((h x).1 (List.mem_cons_self ..)) with e | hx
   · exact e
   · rcases List.mem_cons.1 ((h y).2 (List.mem_cons_self ..)) with e | hy
     · exact e.symm
     · have := bef_asym (k1 x hx)
       rw [h1 y hy] at this
       cases this
  subst e
  congr 1
  refine ordd_unique h2 k2 fun z => ?_
  constructor
  · intro hz
    rcases List.mem_cons.1 ((h z).1 (List.mem_cons_of_mem _ hz)) with e | hz'
    · subst e
      have := h1 z hz
      rw [bef_irr] at this
      cases this
    · exact hz'
  · intro hz
    rcases List.mem_cons.1 ((h z).2 (List.mem_cons_of_mem _ hz)) with e | hz'
    · subst e
      have := k1 z hz
      rw [bef_irr] at this
      cases this
    · exact hz'
def insO (x : AS) : List AS → List AS
 | [] => [x]
 | y :: l => if x = y then y :: l else if bef x y = true then x :: y :: l else y :: insO x l
theorem mem_insO {x z : AS} : ∀ {l : List AS}, z ∈ insO x l ↔ z = x ∨ z ∈ l
 | [] => by simp [insO]
 | y :: l => by
  unfold insO
  split
  · rename_i e
    subst e
    simp
  · split
    · simp
    · rw [List.mem_cons, mem_insO, List.mem_cons]
      constructor
      · rintro (h | h | h) <;> simp [h]
      · rintro (h | h | h) <;> simp [h]
theorem ordd_insO {x : AS} : ∀ {l : List AS}, Ordd l → Ordd (insO x l)
 | [], _ => by simp [insO, Ordd]
 | y :: l, h => by
  obtain ⟨h1, h2⟩ := List.pairwise_cons.1 h
  unfold insO
  split
  · exact h
  · split
    · rename_i hxy
      refine List.pairwise_cons.2 ⟨fun z hz => ?_, h⟩
      rcases List.mem_cons.1 hz with rfl | hz
      · exact hxy
      · exact bef_trans hxy (h1 z hz)
    · rename_i hne hxy
      refine List.pairwise_cons.2 ⟨fun z hz => ?_, ordd_insO h2⟩
      rcases mem_insO.1 hz with rfl | hz
      · exact (bef_tri hne).resolve_left hxy
      · exact h1 z hz
def ord (l : List AS) : List AS := l.foldl (fun o x => insO x o) []
theorem ord_aux : ∀ {l o : List AS}, Ordd o → Ordd (l.foldl (fun o x => insO x o) o) ∧ ∀ z, z ∈ l.foldl (fun o x => insO x o) o ↔ z ∈ o ∨ z ∈ l
 | [], o, h => ⟨h, fun z => by simp⟩
 | x :: l, o, h => by
  obtain ⟨h1, h2⟩ := ord_aux (l := l) (ordd_insO (x := x) h)
  refine ⟨h1, fun z => ?_⟩
  show z ∈ l.foldl (fun o x => insO x o) (insO x o) ↔ _
  rw [h2 z, mem_insO, List.mem_cons]
  constructor
  · rintro ((h | h) | h) <;> simp [h]
  · rintro (h | h | h) <;> simp [h]
theorem ordd_ord (l : List AS) : Ordd (ord l) := (ord_aux (o := []) List.Pairwise.nil).1
theorem mem_ord {l : List AS} {z : AS} : z ∈ ord l ↔ z ∈ l := by
 show z ∈ l.foldl (fun o x => insO x o) [] ↔ _
 rw [(ord_aux (l := l) (o := []) List.Pairwise.nil).2 z]
 simp
theorem ord_eq {l k : List AS} (hk : Ordd k) (h : ∀ z, z ∈ k ↔ z ∈ l) : k = ord l := ordd_unique hk (ordd_ord l) fun z => by rw [h z, mem_ord]
end Go.Hx
end
section
namespace Go.Hx
def membs (s : AS) : List Nat := (List.range 32).filter fun i => s.getLsbD i
def iC : Nat → Nat → PV := fun n _ => .raw (.int .i64 (n : Int))
abbrev il (l : List Nat) : PV := psl 1 iC l
theorem bsz_membs (s : AS) : bsz s = (membs s).length := by unfold bsz membs; rw [List.countP_eq_length_filter]
theorem mem_membs {s : AS} {i : Nat} : i ∈ membs s ↔ i < 32 ∧ s.getLsbD i = true := by simp [membs, List.mem_filter, List.mem_range]
theorem filter_first {p : Nat → Bool} {t : Nat} : ∀ {l : List Nat}, l.Pairwise (· < ·) → t ∈ l → p t = true → (∀ k, k < t → p k = false) → l.filter p = t :: l.filter fun k => decide (k ≠ t) && p k
 | [], _, h, _, _ => by cases h
 | a :: l, hp, hm, h1, h2 => by
  obtain ⟨q1, q2⟩ := List.pairwise_cons.1 hp
  by_cases ha : a = t
  · subst ha
    have e : l.filter p = l.filter fun k => decide (k ≠ a) && p k := by
     apply List.filter_congr
     intro k hk
     have := q1 k hk
     rw [decide_eq_true (by omega), Bool.true_and]
    simp [List.filter_cons, h1, e]
  · have hm' : t ∈ l := by
     rcases List.mem_cons.1 hm with h | h
     · exact absurd h.symm ha
     · exact h
    have := q1 t hm'
    have hpa := h2 a this
    simp [List.filter_cons, hpa, filter_first q2 hm' h1 h2]
def lowB (s : AS) : Nat := Lib.ctz 32 s.toNat
theorem low_spec {s : AS} (h : s ≠ 0) : ∃ m, s.toNat = 2 ^ (lowB s + 1) * m + 2 ^ lowB s ∧ lowB s < 32 := by
 have h0 : s.toNat ≠ 0 := fun e => h (BitVec.eq_of_toNat_eq e)
 obtain ⟨m, h1, h2⟩ := Lib.ctzFrom_spec 32 s.toNat (by omega) s.isLt
 have e : lowB s = Lib.ctzFrom 32 s.toNat := by unfold lowB Lib.ctz; rw [if_neg h0]
 rw [e]
 refine ⟨m, ?_, h2⟩
 rw [Nat.pow_succ]
 rw [h1] at *
 simp only [Nat.mul_add, Nat.mul_assoc, Nat.mul_one] at *
 exact h1
theorem low_bit {s : AS} (h : s ≠ 0) : lowB s < 32 ∧ s.getLsbD (lowB s) = true ∧ (∀ k, k < lowB s → s.getLsbD k = false) ∧ s &&& (s - 1) = s &&& ~~~((1 : AS) <<< lowB s) := by
 obtain ⟨m, h1, h2⟩ := low_spec h
 generalize lowB s = t at *
 have hp : 2 ^ t < 2 ^ (t + 1) := Nat.pow_lt_pow_right (by omega) (by omega)
 have hb : ∀ k, s.getLsbD k = if k < t + 1 then (2 ^ t).testBit k else m.testBit (k - (t + 1)) := fun k => by
  show s.toNat.testBit k = _
  rw [h1, Nat.testBit_two_pow_mul_add _ hp]
 have hq : 0 < 2 ^ t := Nat.two_pow_pos t
 have e1 : (s - 1).toNat = 2 ^ (t + 1) * m + (2 ^ t - 1) := by
  have := s.isLt
  rw [BitVec.toNat_sub]
  show (2 ^ 32 - 1 + s.toNat) % 2 ^ 32 = _
  omega
 have hd : ∀ k, (s - 1).getLsbD k = if k < t + 1 then (2 ^ t - 1).testBit k else m.testBit (k - (t + 1)) := fun k => by
  show (s - 1).toNat.testBit k = _
  rw [e1, Nat.testBit_two_pow_mul_add _ (by omega)]
 refine ⟨h2, ?_, fun k hk => ?_, ?_⟩
 · rw [hb, if_pos (by omega), Nat.testBit_two_pow_self]
 · rw [hb, if_pos (by omega), Nat.testBit_two_pow]
   simp; omega
 · apply BitVec.eq_of_getLsbD_eq
   intro k hk
   rw [BitVec.getLsbD_and, BitVec.getLsbD_and, BitVec.getLsbD_not, bit_one _ _ hk, hd k, hb k]
   by_cases h3 : k < t + 1
   · rw [if_pos h3, if_pos h3, Nat.testBit_two_pow, Nat.testBit_two_pow_sub_one]
     by_cases h4 : k = t
     · subst h4; simp
     · have : ¬ t = k := fun e => h4 e.symm
       simp [this]
   · rw [if_neg h3, if_neg h3]
     have : ¬ k = t := by omega
     simp [hk, this]
theorem low_clear {s : AS} (h : s ≠ 0) (k : Nat) (hk : k < 32) : (s &&& (s - 1)).getLsbD k = (decide (k ≠ lowB s) && s.getLsbD k) := by
 rw [(low_bit h).2.2.2, BitVec.getLsbD_and, BitVec.getLsbD_not, bit_one _ _ hk]
 by_cases e : k = lowB s <;> simp [e, hk, Bool.and_comm]
theorem membs_low {s : AS} (h : s ≠ 0) : membs s = lowB s :: membs (s &&& (s - 1)) := by
 obtain ⟨h1, h2, h3, _⟩ := low_bit h
 unfold membs
 rw [filter_first List.pairwise_lt_range (List.mem_range.2 h1) h2 h3]
 congr 1
 apply List.filter_congr
 intro k hk
 rw [low_clear h k (List.mem_range.1 hk)]
theorem membs_zero : membs 0 = [] := by
 unfold membs
 rw [List.filter_eq_nil_iff]
 intro k _
 simp
theorem low_less {s : AS} (h : s ≠ 0) : (s &&& (s - 1)).toNat < s.toNat := by
 refine sub_lt (sub_bit.2 fun i hi hb => ?_) fun e => ?_
 · rw [low_clear h i hi] at hb
   simp only [Bool.and_eq_true] at hb
   exact hb.2
 · have := low_clear h (lowB s) (low_bit h).1
   rw [e, (low_bit h).2.1] at this
   simp at this
end Go.Hx
end
