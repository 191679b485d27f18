/- A part of the proof: V30 Cs32 V31 Cs33 V32 Cs34 Cs35 V34. -/
import Derived.Test.YtidophngianjiaaGreatDoor9x34
set_option linter.all false
section
namespace Go.Hx
open Go.Proofs
set_option maxRecDepth 100000
set_option maxHeartbeats 1000000
theorem ar0 : goodFn Tryz.prog 135 := ⟨Tryz.f135, Tryz.func135, by kernel_rfl, by kernel_rfl⟩
theorem ah8 (l : List Fd) (p : AS) (hp : p.toNat < 65536) : ah Tryz.prog 135 [pP (fdl l), pA p] (ap [pA (ge l p)]) := by
 refine ag (nt := 46) af Tryz.func135 rfl rfl l9 ?_; refine sx7 ?_; refine qy ?_; refine a6 ?_; refine sx7 ?_; refine qy ?_; refine a6 ?_; refine a7 ?_; refine sx7 ?_; refine qy ?_; refine a6 ?_
 refine ae ?_
 refine ai (ι := Nat) ⟨[(0, some _), (1, some _)], []⟩ ⟨⟨c9, c9, trivial⟩, trivial⟩ (fun i => ⟨[(5, some (vA (gi l p i))), (6, some (.v (.one (.p (.raw (.int .u32 (i : Int)))))))], []⟩) (fun i => i ≤ p.toNat + 1) (fun i => p.toNat + 1 - i) (0) (Nat.zero_le _) ⟨⟨⟨_, rfl, (c5 rfl)⟩, zy, trivial⟩, trivial⟩ ?_
 rintro i hi
 have hsa : asI p = (p.toNat : Int) := rfl
 refine a7 ?_; refine sx7 ?_; (iterate 3 refine qy ?_); refine a6 ?_; refine a8 _ rfl (fun r0 => ?_) (fun r0 => ?_)
 ·
  have h0 := of_decide_eq_true r0
  try simp only [ty] at h0
  refine aa ?_; refine a7 ?_; refine ae ?_; refine a7 ?_; refine sx7 ?_; (iterate 5 refine qy ?_); refine aw rfl rfl (fun r1 => ?_) (fun r1 => ?_)
  ·
   have h1 := r1
   have h1 := of_decide_eq_false (av h1)
   try simp only [ty] at h1
   (iterate 5 refine k9 (gtf r1) ?_); refine rq rfl rfl rfl rfl rfl ?_ (hp := r1); refine a6 ?_; refine a8 _ rfl (fun _ => ?_) (fun e => by cases e); refine ak ?_; refine gy ?_; (iterate 3 refine qy ?_)
   refine a6 ?_; refine ⟨i + 1, ?_, ?_, ?_⟩
   · show i + 1 ≤ _; omega
   · first | omega | (dsimp only; omega)
   · exact ⟨⟨⟨_, rfl, (by first | exact c5 (afk (by omega) (by assumption)) | exact c5 (af0 (by assumption)) | exact c5 (ag4 (by omega) (by assumption) (by assumption) (by assumption)) | exact c5 (af3 (by assumption)))⟩, zy, c9, c9, trivial⟩, trivial⟩
  ·
   have h1 := r1
   have h1 := of_decide_eq_true (au h1)
   try simp only [ty] at h1
   (iterate 3 refine qy ?_ (hg := (gff r1))); refine rc rfl rfl rfl rfl rfl rfl a5x (an6 l (BitVec.ofNat 32 i) p) (⟨CoC.refl _, cci (eq (by omega)), CoC.refl _, trivial⟩) rfl (gff r1) ?_; refine qy ?_ (hg := (gff r1))
   refine qy ?_; refine a6 ?_; refine a8 _ rfl (fun r2 => ?_) (fun r2 => ?_)
   ·
    have h2 := r2
    have h2 := be r1 h2
    have h2 := av h2
    refine ak ?_; refine gy ?_; (iterate 3 refine qy ?_); refine a6 ?_; refine ⟨i + 1, ?_, ?_, ?_⟩
    · show i + 1 ≤ _; omega
    · first | omega | (dsimp only; omega)
    · exact ⟨⟨⟨_, rfl, (by first | exact c5 (afk (by omega) (by assumption)) | exact c5 (af0 (by assumption)) | exact c5 (ag4 (by omega) (by assumption) (by assumption) (by assumption)) | exact c5 (af3 (by assumption)))⟩, zy, c9, c9, trivial⟩, trivial⟩
   ·
    have h2 := r2
    have h2 := be r1 h2
    have h2 := au h2
    refine aa ?_; refine sx7 ?_; refine qy ?_; refine a6 ?_; refine a7 ?_; refine sx7 ?_; refine qy ?_; refine a6 ?_; refine ae ?_
    refine ai (ι := Nat) ⟨[(0, some _), (1, some _), (5, some _), (6, some _)], []⟩ ⟨⟨c9, c9, c9, c9, trivial⟩, trivial⟩ (fun a => ⟨[(7, some (vB (s4 l p (BitVec.ofNat 32 i) a))), (8, some (vI a))], []⟩) (fun a => a ≤ 32) (fun a => 32 - a) (0) (Nat.zero_le _) ⟨⟨⟨_, rfl, (cob rfl)⟩, zy, trivial⟩, trivial⟩ ?_
    rintro a ha
    refine a7 ?_; refine sx7 ?_; (iterate 2 refine qy ?_); refine a6 ?_; refine a8 _ rfl (fun r3 => ?_) (fun r3 => ?_)
    ·
     have h3 := of_decide_eq_true r3
     try simp only [ty] at h3
     refine aa ?_; refine a7 ?_; refine ae ?_; refine sx7 ?_; (iterate 2 refine qy ?_)
     refine rc rfl rfl rfl rfl rfl rfl rh (a6b (BitVec.ofNat 32 i) a) (⟨cci (eq (by omega)), CoC.refl _, trivial⟩) rfl rfl ?_; refine qy ?_; refine aw rfl rfl (fun r4 => ?_) (fun r4 => ?_)
     ·
      have h4 := r4
      (iterate 6 refine qy ?_ (hg := (gtt r4)))
      refine rc rfl rfl rfl rfl rfl rfl a5x (an6 l (noA (BitVec.ofNat 32 i) a) p) (⟨CoC.refl _, cci (by rw [eq (n := i) (by omega)]; exact a8q _ _ rfl), CoC.refl _, trivial⟩) rfl (gtt r4) ?_; refine qy ?_
      refine a6 ?_; refine a8 _ rfl (fun r5 => ?_) (fun r5 => ?_)
      ·
       have h5 := r5
       have h5 := c6 r4 h5
       refine gy ?_; refine qy ?_; refine a6 ?_; refine gy ?_; (iterate 3 refine qy ?_); refine a6 ?_; refine ⟨a + 1, ?_, ?_, ?_⟩
       · show a + 1 ≤ _; omega
       · first | omega | (dsimp only; omega)
       · exact ⟨⟨⟨_, rfl, (cob (by first | exact (aab (by omega) (by assumption) (by assumption)).symm | exact (a5c (by omega) (by assumption)).symm | exact (a6t (by assumption)).symm))⟩, zy, c9, c9, c9, c9, trivial⟩, trivial⟩
      ·
       have h5 := r5
       have h5 := c6 r4 h5
       refine aa ?_; refine gy ?_; (iterate 3 refine qy ?_); refine a6 ?_; refine ⟨a + 1, ?_, ?_, ?_⟩
       · show a + 1 ≤ _; omega
       · first | omega | (dsimp only; omega)
       · exact ⟨⟨⟨_, rfl, (cob (by first | exact (aab (by omega) (by assumption) (by assumption)).symm | exact (a5c (by omega) (by assumption)).symm | exact (a6t (by assumption)).symm))⟩, zy, c9, c9, c9, c9, trivial⟩, trivial⟩
     ·
      have h4 := r4
      (iterate 7 refine k9 (gft r4) ?_); refine rq rfl rfl rfl rfl rfl ?_ (hp := r4); refine a6 ?_; refine a8 _ rfl (fun e => by cases e) (fun _ => ?_); refine aa ?_; refine gy ?_; (iterate 3 refine qy ?_)
      refine a6 ?_; refine ⟨a + 1, ?_, ?_, ?_⟩
      · show a + 1 ≤ _; omega
      · first | omega | (dsimp only; omega)
      · exact ⟨⟨⟨_, rfl, (cob (by first | exact (aab (by omega) (by assumption) (by assumption)).symm | exact (a5c (by omega) (by assumption)).symm | exact (a6t (by assumption)).symm))⟩, zy, c9, c9, c9, c9, trivial⟩, trivial⟩
    ·
     have h3 := of_decide_eq_false r3
     try simp only [ty] at h3
     obtain rfl : a = 32 := by omega
     refine ak ?_; refine sx7 ?_; refine qy ?_; refine a6 ?_; refine a8 _ rfl (fun r6 => ?_) (fun r6 => ?_)
     ·
      have h6 := r6
      refine gy ?_; (iterate 4 refine qy ?_); refine a6 ?_; refine gy ?_; (iterate 3 refine qy ?_); refine a6 ?_; refine ⟨i + 1, ?_, ?_, ?_⟩
      · show i + 1 ≤ _; omega
      · first | omega | (dsimp only; omega)
      · exact ⟨⟨⟨_, rfl, (by first | exact c5 (afk (by omega) (by assumption)) | exact c5 (af0 (by assumption)) | exact c5 (ag4 (by omega) (by assumption) (by assumption) (by assumption)) | exact c5 (af3 (by assumption)))⟩, zy, c9, c9, trivial⟩, trivial⟩
     ·
      have h6 := r6
      refine aa ?_; refine gy ?_; (iterate 3 refine qy ?_); refine a6 ?_; refine ⟨i + 1, ?_, ?_, ?_⟩
      · show i + 1 ≤ _; omega
      · first | omega | (dsimp only; omega)
      · exact ⟨⟨⟨_, rfl, (by first | exact c5 (afk (by omega) (by assumption)) | exact c5 (af0 (by assumption)) | exact c5 (ag4 (by omega) (by assumption) (by assumption) (by assumption)) | exact c5 (af3 (by assumption)))⟩, zy, c9, c9, trivial⟩, trivial⟩
 ·
  have h0 := of_decide_eq_false r0
  try simp only [ty] at h0
  have hie : i = p.toNat + 1 := by omega
  refine ak ?_; refine sx7 ?_; (iterate 2 refine qy ?_); refine a6 ?_
  exact hx8 rfl rfl rfl (⟨cci (congrArg asI (aex hie)), trivial⟩)
theorem awx : goodFn Tryz.prog 86 := ⟨Tryz.f86, Tryz.func86, by kernel_rfl, by kernel_rfl⟩
theorem aht (l : List Fd) (p : AS) (hp : p.toNat < 65536) : ah Tryz.prog 86 [pP (fdl l), pA p] (ap [pB (db l p)]) := by
 refine ag (nt := 38) af Tryz.func86 rfl rfl l9 ?_; refine sx7 ?_; refine qy ?_; refine a6 ?_; refine sx7 ?_; (iterate 2 refine qy ?_)
 refine rc rfl rfl rfl rfl rfl rfl ar0 (ah8 l p hp) (CoL.refl _) rfl rfl ?_; refine qy ?_; refine a6 ?_; refine a7 ?_; refine sx7 ?_; refine qy ?_; refine a6 ?_; refine ae ?_
 refine ai (ι := Nat) ⟨[(0, some _), (1, some _), (5, some _)], []⟩ ⟨⟨c9, c9, c9, trivial⟩, trivial⟩ (fun i => ⟨[(6, some (.v (.one (.p (.raw (.int .u32 (i : Int)))))))], []⟩) (fun i => i ≤ p.toNat + 1 ∧ ∀ j, j < i → (decide (sub (BitVec.ofNat 32 j) p) && kb l p (BitVec.ofNat 32 j)) = false) (fun i => p.toNat + 1 - i) (0) (⟨Nat.zero_le _, bs⟩) ⟨⟨zy, trivial⟩, trivial⟩ ?_
 rintro i ⟨hi, hI⟩
 have hsa : asI p = (p.toNat : Int) := rfl
 refine a7 ?_; refine sx7 ?_; (iterate 3 refine qy ?_); refine a6 ?_; refine a8 _ rfl (fun r0 => ?_) (fun r0 => ?_)
 ·
  have h0 := of_decide_eq_true r0
  try simp only [ty] at h0
  refine aa ?_; refine a7 ?_; refine ae ?_; refine sx7 ?_; (iterate 5 refine qy ?_); refine aw rfl rfl (fun r1 => ?_) (fun r1 => ?_)
  ·
   have h1 := of_decide_eq_true r1
   try simp only [ty] at h1
   (iterate 3 refine qy ?_ (hg := (gtt r1))); refine rc rfl rfl rfl rfl rfl rfl a5x (an6 l (BitVec.ofNat 32 i) p) (⟨CoC.refl _, cci (eq (by omega)), CoC.refl _, trivial⟩) rfl (gtt r1) ?_; refine qy ?_ (hg := (gtt r1))
   (iterate 2 refine qy ?_); refine aw rfl rfl (fun r2 => ?_) (fun r2 => ?_)
   ·
    have h2 := r2
    have h2 := c6 r1 h2
    have h2 := av h2
    (iterate 2 refine qy ?_ (hg := (gtt r2))); refine rc rfl rfl rfl rfl rfl rfl a01 (zz l (BitVec.ofNat 32 i)) (⟨CoC.refl _, cci (eq (by omega)), trivial⟩) rfl (gtt r2) ?_
    (iterate 7 refine qy ?_ (hg := (gtt r2))); refine qy ?_; refine a6 ?_; refine a8 _ rfl (fun r3 => ?_) (fun r3 => ?_)
    ·
     have h3 := r3
     have h3 := c6 r2 h3
     have h3 := of_decide_eq_false (av h3)
     try simp only [ty] at h3
     refine sx7 ?_; refine qy ?_; refine a6 ?_
     exact hx8 rfl rfl rfl (⟨ccb (ady (x := BitVec.ofNat 32 i) ((rg (i := i) (by omega)).1 (by assumption)) (apq (by assumption) (by rw [← eq (n := i) (by omega)]; assumption))).symm, trivial⟩)
    ·
     have h3 := r3
     have h3 := c6 r2 h3
     have h3 := of_decide_eq_true (au h3)
     try simp only [ty] at h3
     refine aa ?_; refine gy ?_; (iterate 3 refine qy ?_); refine a6 ?_; refine ⟨i + 1, ?_, ?_, ?_⟩
     · exact ⟨by show i + 1 ≤ _; omega, bd hI (by first | exact a8v (by omega) (by assumption) | exact vb (zj (by assumption)) | exact vb (zf (by rw [← eq (n := i) (by omega)]; assumption)))⟩
     · first | omega | (dsimp only; omega)
     · exact ⟨⟨zy, c9, c9, c9, trivial⟩, trivial⟩
   ·
    have h2 := r2
    have h2 := c6 r1 h2
    have h2 := au h2
    (iterate 10 refine k9 (gft r2) ?_); refine rq rfl rfl rfl rfl rfl ?_ (hp := r2); refine a6 ?_; refine a8 _ rfl (fun e => by cases e) (fun _ => ?_); refine aa ?_; refine gy ?_; (iterate 3 refine qy ?_)
    refine a6 ?_; refine ⟨i + 1, ?_, ?_, ?_⟩
    · exact ⟨by show i + 1 ≤ _; omega, bd hI (by first | exact a8v (by omega) (by assumption) | exact vb (zj (by assumption)) | exact vb (zf (by rw [← eq (n := i) (by omega)]; assumption)))⟩
    · first | omega | (dsimp only; omega)
    · exact ⟨⟨zy, c9, c9, c9, trivial⟩, trivial⟩
  ·
   have h1 := of_decide_eq_false r1
   try simp only [ty] at h1
   (iterate 5 refine k9 (gft r1) ?_); refine rq rfl rfl rfl rfl rfl ?_ (hp := r1); refine qy ?_; (iterate 10 refine k9 rfl ?_); refine qy ?_; refine a6 ?_; refine a8 _ rfl (fun e => by cases e) (fun _ => ?_)
   refine aa ?_; refine gy ?_; (iterate 3 refine qy ?_); refine a6 ?_; refine ⟨i + 1, ?_, ?_, ?_⟩
   · exact ⟨by show i + 1 ≤ _; omega, bd hI (by first | exact a8v (by omega) (by assumption) | exact vb (zj (by assumption)) | exact vb (zf (by rw [← eq (n := i) (by omega)]; assumption)))⟩
   · first | omega | (dsimp only; omega)
   · exact ⟨⟨zy, c9, c9, c9, trivial⟩, trivial⟩
 ·
  have h0 := of_decide_eq_false r0
  try simp only [ty] at h0
  have hie : i = p.toNat + 1 := by omega
  refine ak ?_; refine sx7 ?_; refine qy ?_; refine a6 ?_
  exact hx8 rfl rfl rfl (⟨ccb (auj hie hI).symm, trivial⟩)
theorem avq : goodFn Tryz.prog 84 := ⟨Tryz.f84, Tryz.func84, by kernel_rfl, by kernel_rfl⟩
theorem as0 (n : Int) (l : List Fd) (p : AS) : ah Tryz.prog 84 [pI n, pP (fdl l), pA p] (ap [pB (xk n l p), pI (pf n l p)]) := by
 refine ag (nt := 50) af Tryz.func84 rfl rfl l9 ?_; refine sx7 ?_; (iterate 2 refine qy ?_); refine a6 ?_; refine a7 ?_; refine sx7 ?_; (iterate 2 refine qy ?_)
 refine rc rfl rfl rfl rfl rfl rfl so (sh n l) (CoL.refl _) rfl rfl ?_; refine qy ?_; refine a6 ?_; refine sx7 ?_; (iterate 2 refine qy ?_); refine a6 ?_; refine a8 _ rfl (fun r0 => ?_) (fun r0 => ?_)
 ·
  have h0 := r0
  have h0 := of_decide_eq_false (av h0)
  try simp only [ty] at h0
  refine sx7 ?_; (iterate 3 refine qy ?_); refine a6 ?_; refine am ?_; refine ⟨.inr rfl, ?_⟩
  have he := ay4 (p := p) h0
  exact f9 rfl rfl (⟨ccb he.2.symm, cci he.1.symm, trivial⟩)
 ·
  have h0 := r0
  have h0 := of_decide_eq_true (au h0)
  try simp only [ty] at h0
  refine aa ?_; (iterate 2 refine a7 ?_)
  have hv := d9 h0
  have hsh := afo (s := p) (n := n) hv.1 hv.2.1
  refine gy ?_; (iterate 4 refine qy ?_); refine a6 ?_; refine a8 _ rfl (fun r1 => ?_) (fun r1 => ?_)
  ·
   have h1 := r1
   have h1 := of_decide_eq_false (av h1)
   try simp only [ty] at h1
   refine sx7 ?_; (iterate 2 refine qy ?_); refine a6 ?_; refine am ?_; refine ⟨.inr rfl, ?_⟩
   have he := ay8 h0 (fun e => h1 (hsh.2 e))
   exact f9 rfl rfl (⟨ccb he.2.symm, cci he.1.symm, trivial⟩)
  ·
   have h1 := r1
   have h1 := of_decide_eq_true (au h1)
   try simp only [ty] at h1
   refine aa ?_; refine sx7 ?_; (iterate 2 refine qy ?_); refine rc rfl rfl rfl rfl rfl rfl atm (aqw l p) (CoL.refl _) rfl rfl ?_; refine qy ?_; refine a6 ?_; (iterate 2 refine a7 ?_)
   have htl := a87 p
   refine gy ?_; refine qy ?_; refine rc rfl rfl rfl rfl rfl rfl ae3 (ail p) (CoL.refl _) rfl rfl ?_; (iterate 2 refine qy ?_); refine a6 ?_; refine ae ?_
   refine ai (ι := Nat) ⟨[(1, some _), (2, some _), (9, some _), (27, some _), (28, some _)], []⟩ ⟨⟨c9, c9, c9, c9, c9, trivial⟩, trivial⟩ (fun i => ⟨[(29, some (vI i))], []⟩) (fun i => i ≤ (dv p).length ∧ (∀ j, j < i → kb l p ((dv p).getD j default) = false)) (fun i => (dv p).length - i) (0) (⟨Nat.zero_le _, bs⟩) ⟨⟨zy, trivial⟩, trivial⟩ ?_
   rintro i ⟨hi, hI⟩
   refine sx7 ?_; refine qy ?_; refine a6 ?_; refine a7 ?_; refine a8 _ rfl (fun r2 => ?_) (fun r2 => ?_)
   ·
    have h2 := of_decide_eq_true r2
    try simp only [ty] at h2
    refine aa ?_; refine a7 ?_; refine ae ?_; refine sx7 ?_; (iterate 3 refine qy ?_); refine a6 ?_; refine sx7 ?_; (iterate 2 refine qy ?_)
    refine rc rfl rfl rfl rfl rfl rfl l7 (ng l ((dv p).getD i default)) (CoL.refl _) rfl rfl ?_; (iterate 3 refine qy ?_); refine a6 ?_; refine sx7 ?_; (iterate 4 refine qy ?_)
    refine aw rfl rfl (fun r3 => ?_) (fun r3 => ?_)
    ·
     have h3 := r3
     have h3 := of_decide_eq_false (av h3)
     try simp only [ty] at h3
     (iterate 6 refine qy ?_ (hg := (gtt r3))); refine qy ?_; refine a6 ?_; refine a8 _ rfl (fun r4 => ?_) (fun r4 => ?_)
     ·
      have h4 := r4
      have h4 := c6 r3 h4
      have h4 := of_decide_eq_false (av h4)
      try simp only [ty] at h4
      refine sx7 ?_; (iterate 2 refine qy ?_); refine a6 ?_; refine am ?_; refine ⟨.inr rfl, ?_⟩
      have he := aoz h0 (hsh.1 h1)
      have hb := ady (mw.1 (a9h (l := dv p) (j := i) (by omega))) (apq (ay6 h3) h4)
      exact f9 rfl rfl (⟨ccb (by rw [he.2, hb]), cci he.1.symm, trivial⟩)
     ·
      have h4 := r4
      have h4 := c6 r3 h4
      have h4 := of_decide_eq_true (au h4)
      try simp only [ty] at h4
      refine aa ?_; refine gy ?_; (iterate 2 refine qy ?_); refine a6 ?_; refine ⟨i + 1, ?_, ?_, ?_⟩
      · exact ⟨by show i + 1 ≤ _; omega, bd hI (by first | exact zj (aor h3) | exact zf h4)⟩
      · first | omega | (dsimp only; omega)
      · exact ⟨⟨zy, c9, c9, c9, c9, c9, trivial⟩, trivial⟩
    ·
     have h3 := r3
     have h3 := of_decide_eq_true (au h3)
     try simp only [ty] at h3
     (iterate 6 refine k9 (gft r3) ?_); refine rq rfl rfl rfl rfl rfl ?_ (hp := r3); refine a6 ?_; refine a8 _ rfl (fun e => by cases e) (fun _ => ?_); refine aa ?_; refine gy ?_; (iterate 2 refine qy ?_)
     refine a6 ?_; refine ⟨i + 1, ?_, ?_, ?_⟩
     · exact ⟨by show i + 1 ≤ _; omega, bd hI (by first | exact zj (aor h3) | exact zf h4)⟩
     · first | omega | (dsimp only; omega)
     · exact ⟨⟨zy, c9, c9, c9, c9, c9, trivial⟩, trivial⟩
   ·
    have h2 := of_decide_eq_false r2
    try simp only [ty] at h2
    obtain rfl : i = (dv p).length := by omega
    refine ak ?_; refine sx7 ?_; (iterate 2 refine qy ?_); refine a6 ?_; refine am ?_; refine ⟨.inr rfl, ?_⟩
    have he := aoz h0 (hsh.1 h1)
    have hb := am1 hI
    exact f9 rfl rfl (⟨ccb (by rw [he.2, hb]), cci he.1.symm, trivial⟩)
end Go.Hx
end
section
namespace Go.Hx
section
variable {n : Int} {l : List Fd}
theorem yp (h : az n l = 0) {x : AS} (hx : sub x (b8 n)) : sub (b8 n) (clo l x) ↔ clo l x = b8 n :=
 ⟨fun e => gh (aae h hx) e, fun e => by rw [e]; exact fj _⟩
theorem yq (h : az n l = 0) {x : AS} (hx : sub x (b8 n)) : gr n l x = i9 l (b8 n) x := by
 unfold gr i9
 exact decide_eq_decide.2 ⟨fun e => (yp h hx).2 e.2.2, fun e => ⟨h, hx, (yp h hx).1 e⟩⟩
theorem aea {x : AS} {a : Nat} : sub (noA x a) x := j1
theorem anr {n : Int} (h0 : 0 ≤ n) (h1 : n ≤ 16) {k : Nat} (hk : k < 32) : (b8 n).getLsbD k = decide (k < n.toNat) := by
 unfold b8
 rw [kw _ k hk, Nat.min_eq_left (by omega)]
theorem a3q (h : az n l = 0) {x : AS} (hx : sub x (b8 n)) : oo n l x = og l (b8 n) x := by
 obtain ⟨h0, h1, _⟩ := d9 h
 unfold oo og
 rw [yq h hx]
 congr 1
 unfold py
 rw [Bool.eq_iff_iff, List.all_eq_true, List.all_eq_true]
 constructor
 · intro hh a ha
   rw [List.mem_range] at ha
   cases hb : x.getLsbD a with
   | false => rfl
   | true =>
    have hf := cq.1 hx a ha hb
    rw [anr h0 h1 ha] at hf
    have := hh a (List.mem_range.2 (of_decide_eq_true hf))
    rwa [hb, yq h (dz aea hx)] at this
 · intro hh a ha
   rw [List.mem_range] at ha
   have := hh a (List.mem_range.2 (by omega))
   rwa [← yq h (dz aea hx)] at this
theorem al4 (h : az n l = 0) : orL (d4 n l) = ge l (b8 n) := by
 obtain ⟨h0, h1, _⟩ := d9 h
 have hfn := aut h0 h1
 have hfe : asI (b8 n) = ((b8 n).toNat : Int) := rfl
 unfold ge
 refine aan fun z => ?_
 rw [ae1 h, adf, List.mem_filter, mw]
 show z ∈ (a1z (2 ^ n.toNat)).filter (oo n l) ↔ _
 rw [List.mem_filter, aaw (by omega)]
 constructor
 · rintro ⟨hz, hk⟩
   have hs : sub z (b8 n) := by
    have : z = BitVec.ofNat 32 z.toNat := by rw [BitVec.ofNat_toNat, BitVec.setWidth_eq]
    rw [this]
    exact a8a h0 h1 hz
   exact ⟨hs, by rw [← a3q h hs]; exact hk⟩
 · rintro ⟨hs, hk⟩
   have := a3v hs
   exact ⟨by omega, by rw [a3q h hs]; exact hk⟩
def ul (n : Int) (l : List Fd) (f : Fd) : Bool := decide (clo l f.lhs ≠ b8 n) && decide (f.rhs &&& ~~~ge l (b8 n) ≠ 0)
def l8 (n : Int) (l : List Fd) (i : Nat) : List Fd := ((jl n l).take i).filter (ul n l)
def tt (n : Int) (l : List Fd) : List Fd := (jl n l).filter (ul n l)
theorem qo {i : Nat} (hi : i < (jl n l).length) (h : ul n l ((jl n l).getD i default) = true) : l8 n l (i + 1) = l8 n l i ++ [(jl n l).getD i default] := by
 unfold l8
 rw [br hi, List.filter_append]
 simp only [List.filter_cons, h, if_true, List.filter_nil]
theorem qu {i : Nat} (hi : i < (jl n l).length) (h : ul n l ((jl n l).getD i default) = false) : l8 n l (i + 1) = l8 n l i := by
 unfold l8
 rw [br hi, List.filter_append]
 simp only [List.filter_cons, h, Bool.false_eq_true, if_false, List.filter_nil, List.append_nil]
theorem ajn (n : Int) (l : List Fd) (i : Nat) : (l8 n l i).length ≤ i := by
 unfold l8
 exact Nat.le_trans (List.length_filter_le _ _) (by rw [List.length_take]; omega)
theorem aj0 (n : Int) (l : List Fd) : l8 n l (jl n l).length = tt n l := by unfold l8 tt; rw [List.take_length]
theorem aua (h : ¬ az n l = 0) : tt n l = [] := by unfold tt; rw [aj4 h]; rfl
theorem a2q (n : Int) (l : List Fd) : (jl n l).length ≤ 2048 := by
 unfold jl
 split
 · rename_i h
   have h1 := (d9 h).2.2.1
   have h2 := a3y l
   have h3 : (a9g l).length ≤ (ur l).length := by
    have : ∀ (f : Nat) (k : List Fd) (i : Nat), (ne f k i).length ≤ k.length := by
     intro f
     induction f with
     | zero => intro k i; exact Nat.le_refl _
     | succ f ih =>
      intro k i
      unfold ne
      split
      · rename_i hi
        split
        · exact Nat.le_trans (ih _ _) (by rw [j8 hi]; omega)
        · exact ih _ _
      · exact Nat.le_refl _
    exact this _ _ _
   omega
 · simp
theorem rj {f : Fd} (h : asI (clo l f.lhs) = asI (b8 n)) : ul n l f = false := by unfold ul; rw [da.1 h]; simp
theorem qw {f : Fd} (h : ca .andNot .u32 (asI f.rhs) (asI (ge l (b8 n))) = 0) : ul n l f = false := by
 have h2 : f.rhs &&& ~~~ge l (b8 n) = 0 := fc.1 h
 unfold ul
 rw [h2]
 simp
theorem ut {f : Fd} (h : ¬ asI (clo l f.lhs) = asI (b8 n)) (h2 : ¬ ca .andNot .u32 (asI f.rhs) (asI (ge l (b8 n))) = 0) : ul n l f = true := by
 unfold ul
 rw [Bool.and_eq_true, decide_eq_true_iff, decide_eq_true_iff]
 exact ⟨fun e => h (congrArg asI e), fun e => h2 (fc.2 e)⟩
end
theorem at9 {L : List Fd} : decide ((L.length : Int) = 0) = decide (L = []) := decide_eq_decide.2 ⟨fun h => List.eq_nil_of_length_eq_zero (by omega), fun h => by rw [h]; rfl⟩
theorem aoy {b : Bool} {L : List Fd} : (bif b then decide ((L.length : Int) = 0) else false) = (b && decide (L = [])) := by
 rw [at9]
 cases b <;> rfl
end Go.Hx
end
section
namespace Go.Hx
open Go.Proofs
set_option maxRecDepth 100000
theorem akg : goodFn Tryz.prog 77 := ⟨Tryz.f77, Tryz.func77, by kernel_rfl, by kernel_rfl⟩
theorem ahi (n : Int) (l : List Fd) : ah Tryz.prog 77 [pI n, pP (fdl l)] (ap [pP (fdl (tt n l)), pI (az n l)]) := by
 refine ag (nt := 56) af Tryz.func77 rfl rfl l9 ?_; refine sx7 ?_; (iterate 2 refine qy ?_); refine a6 ?_; refine sx7 ?_; (iterate 2 refine qy ?_)
 refine rc rfl rfl rfl rfl rfl rfl at5 (as7 n l) (CoL.refl _) rfl rfl ?_; (iterate 5 refine qy ?_); refine a6 ?_; refine a7 ?_; refine sx7 ?_; (iterate 2 refine qy ?_); refine a6 ?_
 refine a8 _ rfl (fun r0 => ?_) (fun r0 => ?_)
 ·
  have h0 := r0
  have h0 := of_decide_eq_false (av h0)
  try simp only [ty] at h0
  refine sx7 ?_; (iterate 3 refine qy ?_); refine a6 ?_
  exact hx8 rfl rfl rfl (⟨CoC.one (auz (aua h0)), CoC.refl _, trivial⟩)
 ·
  have h0 := r0
  have h0 := of_decide_eq_true (au h0)
  try simp only [ty] at h0
  refine aa ?_; refine a7 ?_
  have hv := d9 h0
  have hpe := al4 h0
  have hml := a2q n l
  refine gy ?_; (iterate 2 refine qy ?_); refine rc rfl rfl rfl rfl rfl rfl adb (ap8 n l) (CoL.refl _) rfl rfl ?_; (iterate 5 refine qy ?_); refine a6 ?_; refine a7 ?_; refine sx7 ?_; (iterate 2 refine qy ?_)
  refine a6 ?_; refine a8 _ rfl (fun r1 => ?_) (fun r1 => ?_)
  ·
   have h1 := r1
   have h1 := of_decide_eq_false (av h1)
   try simp only [ty] at h1
   exfalso
   exact h1 h0
  ·
   have h1 := r1
   have h1 := of_decide_eq_true (au h1)
   try simp only [ty] at h1
   refine aa ?_; refine sx7 ?_; refine qy ?_; refine a6 ?_; refine a7 ?_; refine sx7 ?_; (iterate 3 refine qy ?_); refine a6 ?_; refine ae ?_
   refine dm 9 900 true 2 40 (lf Fd.c []) (by decide) rfl (CoP.sl rfl (.inr rfl) (fun h => h) (fun i j hi _ => absurd hi (Nat.not_lt_zero i))) (.inr rfl) rfl ?_
   refine ai (ι := Nat) ⟨[(0, some _), (1, some _), (6, some _), (30, some _), (31, some _)], []⟩ ⟨⟨c9, c9, c9, c9, c9, trivial⟩, trivial⟩ (fun i => ⟨[(9, some (.v (.one (.ref 900 (l8 n l i).length)))), (32, some (vI i))], [(900, some (.arr true 2 40 (l8 n l i).length (lf Fd.c (l8 n l i))))]⟩) (fun i => i ≤ (jl n l).length) (fun i => (jl n l).length - i) (0) (Nat.zero_le _) ⟨⟨zy, zy, trivial⟩, ⟨u9, trivial⟩⟩ ?_
   rintro i hi
   have hlen := ajn n l i
   refine sx7 ?_; refine qy ?_; refine a6 ?_; refine a7 ?_; refine a8 _ rfl (fun r2 => ?_) (fun r2 => ?_)
   ·
    have h2 := of_decide_eq_true r2
    try simp only [ty] at h2
    refine aa ?_; refine a7 ?_; refine ae ?_; refine sx7 ?_; (iterate 2 refine qy ?_); refine m9 0 ?_; refine s9 ?_; refine a6 ?_; refine sx7 ?_; (iterate 3 refine qy ?_)
    refine rc rfl rfl rfl rfl rfl rfl l7 (ng l ((jl n l).getD i default).lhs) (CoL.refl _) rfl rfl ?_; refine qy ?_; refine rc rfl rfl rfl rfl rfl rfl ajh (ait n hv.1 hv.2.1) (CoL.refl _) rfl rfl ?_
    (iterate 2 refine qy ?_); refine aw rfl rfl (fun r3 => ?_) (fun r3 => ?_)
    ·
     have h3 := r3
     have h3 := of_decide_eq_false (av h3)
     try simp only [ty] at h3
     (iterate 5 refine qy ?_ (hg := (gtt r3))); refine qy ?_; refine a6 ?_; refine a8 _ rfl (fun r4 => ?_) (fun r4 => ?_)
     ·
      have h4 := r4
      have h4 := c6 r3 h4
      have h4 := of_decide_eq_false (av h4)
      try simp only [ty] at h4
      refine gy ?_; (iterate 2 refine qy ?_); refine m9 1 ?_; refine ra 2 true rfl rfl rfl rfl rfl rfl ?_; refine qy ?_; refine a6 ?_; refine gy ?_; (iterate 2 refine qy ?_); refine a6 ?_
      first | (refine ⟨i + 1, ?_, ?_, ?_⟩
               · show i + 1 ≤ _; omega
               · first | omega | (dsimp only; omega)
               · exact ⟨⟨⟨_, rfl, (df (qo (by omega) (ut h3 (by rw [← hpe]; exact h4))))⟩, zy, c9, c9, c9, c9, c9, trivial⟩, ⟨⟨_, rfl, (jb (qo (by omega) (ut h3 (by rw [← hpe]; exact h4))) (CoP.refl _) (CoP.refl _))⟩, trivial⟩⟩)
            | (refine ⟨i + 1, ?_, ?_, ?_⟩
               · show i + 1 ≤ _; omega
               · first | omega | (dsimp only; omega)
               · exact ⟨⟨⟨_, rfl, (f8 (qu (by omega) (by first | exact rj h3 | exact qw (by rw [← hpe]; exact h4))))⟩, zy, c9, c9, c9, c9, c9, trivial⟩, ⟨⟨_, rfl, (dp (qu (by omega) (by first | exact rj h3 | exact qw (by rw [← hpe]; exact h4))))⟩, trivial⟩⟩)
     ·
      have h4 := r4
      have h4 := c6 r3 h4
      have h4 := of_decide_eq_true (au h4)
      try simp only [ty] at h4
      refine aa ?_; refine gy ?_; (iterate 2 refine qy ?_); refine a6 ?_
      first | (refine ⟨i + 1, ?_, ?_, ?_⟩
               · show i + 1 ≤ _; omega
               · first | omega | (dsimp only; omega)
               · exact ⟨⟨⟨_, rfl, (df (qo (by omega) (ut h3 (by rw [← hpe]; exact h4))))⟩, zy, c9, c9, c9, c9, c9, trivial⟩, ⟨⟨_, rfl, (jb (qo (by omega) (ut h3 (by rw [← hpe]; exact h4))) (CoP.refl _) (CoP.refl _))⟩, trivial⟩⟩)
            | (refine ⟨i + 1, ?_, ?_, ?_⟩
               · show i + 1 ≤ _; omega
               · first | omega | (dsimp only; omega)
               · exact ⟨⟨⟨_, rfl, (f8 (qu (by omega) (by first | exact rj h3 | exact qw (by rw [← hpe]; exact h4))))⟩, zy, c9, c9, c9, c9, c9, trivial⟩, ⟨⟨_, rfl, (dp (qu (by omega) (by first | exact rj h3 | exact qw (by rw [← hpe]; exact h4))))⟩, trivial⟩⟩)
    ·
     have h3 := r3
     have h3 := of_decide_eq_true (au h3)
     try simp only [ty] at h3
     (iterate 5 refine k9 (gft r3) ?_); refine rq rfl rfl rfl rfl rfl ?_ (hp := r3); refine a6 ?_; refine a8 _ rfl (fun e => by cases e) (fun _ => ?_); refine aa ?_; refine gy ?_; (iterate 2 refine qy ?_)
     refine a6 ?_
     first | (refine ⟨i + 1, ?_, ?_, ?_⟩
              · show i + 1 ≤ _; omega
              · first | omega | (dsimp only; omega)
              · exact ⟨⟨⟨_, rfl, (df (qo (by omega) (ut h3 (by rw [← hpe]; exact h4))))⟩, zy, c9, c9, c9, c9, c9, trivial⟩, ⟨⟨_, rfl, (jb (qo (by omega) (ut h3 (by rw [← hpe]; exact h4))) (CoP.refl _) (CoP.refl _))⟩, trivial⟩⟩)
           | (refine ⟨i + 1, ?_, ?_, ?_⟩
              · show i + 1 ≤ _; omega
              · first | omega | (dsimp only; omega)
              · exact ⟨⟨⟨_, rfl, (f8 (qu (by omega) (by first | exact rj h3 | exact qw (by rw [← hpe]; exact h4))))⟩, zy, c9, c9, c9, c9, c9, trivial⟩, ⟨⟨_, rfl, (dp (qu (by omega) (by first | exact rj h3 | exact qw (by rw [← hpe]; exact h4))))⟩, trivial⟩⟩)
   ·
    have h2 := of_decide_eq_false r2
    try simp only [ty] at h2
    obtain rfl : i = (jl n l).length := by omega
    refine ak ?_; refine sx7 ?_; (iterate 3 refine qy ?_); refine a6 ?_; refine bq 4 rfl rfl rfl ?_
    exact hx8 rfl rfl rfl (⟨CoC.one (CoP.of_eq (by rw [aj0]; rfl)), cci (by omega), trivial⟩)
theorem avx : goodFn Tryz.prog 79 := ⟨Tryz.f79, Tryz.func79, by kernel_rfl, by kernel_rfl⟩
theorem b0a (n : Int) (l : List Fd) : ah Tryz.prog 79 [pI n, pP (fdl l)] (ap [pB (decide (az n l = 0) && decide (tt n l = [])), pI (az n l)]) := by
 refine ag (nt := 22) af Tryz.func79 rfl rfl l9 ?_; refine sx7 ?_; (iterate 2 refine qy ?_); refine a6 ?_; refine sx7 ?_; (iterate 2 refine qy ?_)
 refine rc rfl rfl rfl rfl rfl rfl akg (ahi n l) (CoL.refl _) rfl rfl ?_; (iterate 5 refine qy ?_); refine a6 ?_; refine sx7 ?_; (iterate 3 refine qy ?_); refine aw rfl rfl (fun r0 => ?_) (fun r0 => ?_)
 ·
  have h0 := of_decide_eq_true r0
  try simp only [ty] at h0
  (iterate 3 refine qy ?_ (hg := (gtt r0))); (iterate 4 refine qy ?_); refine a6 ?_
  exact hx8 rfl rfl rfl (⟨ccb (by first | exact aoy | (rw [decide_eq_false h0]; rfl)), CoC.refl _, trivial⟩)
 ·
  have h0 := of_decide_eq_false r0
  try simp only [ty] at h0
  (iterate 3 refine k9 (gft r0) ?_); refine rq rfl rfl rfl rfl rfl ?_ (hp := r0); (iterate 3 refine qy ?_); refine a6 ?_
  exact hx8 rfl rfl rfl (⟨ccb (by first | exact aoy | (rw [decide_eq_false h0]; rfl)), CoC.refl _, trivial⟩)
end Go.Hx
end
section
namespace Go.Hx
def ws (l : List Fd) (pr k : AS) : Bool := (List.range 32).all fun a => !k.getLsbD a || decide (sub (clo l (noA k a)) pr)
def a5y (n : Int) (l : List Fd) : Bool := (d4 n l).all (ws l (orL (d4 n l)))
def a71 (n : Int) (l : List Fd) : Bool := decide (az n l = 0) && a5y n l
section
variable {l : List Fd} {pr k : AS}
theorem avi {a : Nat} (ha : a < 32) (h : k.getLsbD a = true) (h2 : ¬ sub (clo l (noA k a)) pr) : ws l pr k = false := by
 unfold ws
 rw [List.all_eq_false]
 exact ⟨a, List.mem_range.2 ha, by rw [h, decide_eq_false h2]; decide⟩
theorem ax1 (h : ∀ a, a < 32 → k.getLsbD a = true → sub (clo l (noA k a)) pr) : ws l pr k = true := by
 unfold ws
 rw [List.all_eq_true]
 intro a ha
 cases hk : k.getLsbD a with
 | false => rfl
 | true => rw [decide_eq_true (h a (List.mem_range.1 ha) hk)]; rfl
def a6e (l : List Fd) (pr k r : AS) : Prop := sub r k ∧ ∀ a, a < 32 → k.getLsbD a = true → r.getLsbD a = true ∨ sub (clo l (noA k a)) pr
theorem ant (l : List Fd) (pr k : AS) : a6e l pr k k := ⟨fj k, fun a _ h => .inl h⟩
theorem ase {r : AS} (h : a6e l pr k r) (h0 : r ≠ 0) : ee r < 32 ∧ k.getLsbD (ee r) = true := by
 obtain ⟨h1, h2, _, _⟩ := l3 h0
 exact ⟨h1, cq.1 h.1 _ h1 h2⟩
theorem anm {r : AS} (h : a6e l pr k r) (h0 : r ≠ 0) (hf : sub (clo l (noA k (ee r))) pr) : a6e l pr k (r &&& (r - 1)) := by
 obtain ⟨h1, h2, h3, h4⟩ := l3 h0
 rw [h4]
 refine ⟨dz j1 h.1, fun a ha hx => ?_⟩
 rcases h.2 a ha hx with h5 | h5
 · by_cases hl : a = ee r
   · subst hl; exact .inr hf
   · refine .inl ?_
     have h6 : ((1 : AS) <<< ee r).getLsbD a = decide (a = ee r) := jy _ a ha
     rw [BitVec.getLsbD_and, BitVec.getLsbD_not, decide_eq_true ha, Bool.true_and, h5, h6, decide_eq_false hl]
     rfl
 · exact .inr h5
theorem as8 {r : AS} (h : a6e l pr k r) (h0 : r = 0) : ws l pr k = true := ax1 fun a ha hx => by
 rcases h.2 a ha hx with h5 | h5
 · subst h0; simp at h5
 · exact h5
def b19 (l : List Fd) (pr k : AS) (s : Nat) : Prop := ∀ j, j < s → sub (BitVec.ofNat 32 j) k → sub (clo l (BitVec.ofNat 32 j)) pr
end
section
variable {n : Int} {l : List Fd}
theorem aw3 {i : Nat} (hi : i < (d4 n l).length) (h : ws l (orL (d4 n l)) ((d4 n l).getD i default) = false) : a5y n l = false := by
 unfold a5y
 rw [List.all_eq_false]
 refine ⟨_, a9h hi, by rw [h]; decide⟩
theorem av2 (h : ∀ j, j < (d4 n l).length → ws l (orL (d4 n l)) ((d4 n l).getD j default) = true) : a5y n l = true := by
 unfold a5y
 rw [List.all_eq_true]
 intro x hx
 obtain ⟨j, hj, rfl⟩ := List.getElem_of_mem hx
 have := h j hj
 rwa [List.getD_eq_getElem?_getD, List.getElem?_eq_getElem hj] at this
theorem awm (h : ¬ az n l = 0) : a71 n l = false := by unfold a71; rw [decide_eq_false h]; rfl
theorem ajw (h : az n l = 0) {b : Bool} (hb : a5y n l = b) : a71 n l = b := by unfold a71; rw [decide_eq_true h, hb]; rfl
theorem akj {q : Nat → Bool} {i : Nat} (h : ∀ j, j < i → q j = true) (h2 : q i = true) : ∀ j, j < i + 1 → q j = true := fun j hj => by
 by_cases e : j = i
 · subst e; exact h2
 · exact h j (by omega)
end
end Go.Hx
end
section
namespace Go.Hx
open Go.Proofs
set_option maxRecDepth 100000
theorem avs : goodFn Tryz.prog 78 := ⟨Tryz.f78, Tryz.func78, by kernel_rfl, by kernel_rfl⟩
theorem anz (n : Int) (l : List Fd) : ah Tryz.prog 78 [pI n, pP (fdl l)] (ap [pB (a71 n l), pI (az n l)]) := by
 refine ag (nt := 58) af Tryz.func78 rfl rfl l9 ?_; refine sx7 ?_; (iterate 2 refine qy ?_); refine a6 ?_; refine sx7 ?_; (iterate 2 refine qy ?_)
 refine rc rfl rfl rfl rfl rfl rfl ad8 (aou n l) (CoL.refl _) rfl rfl ?_; (iterate 5 refine qy ?_); refine a6 ?_; refine a7 ?_; refine sx7 ?_; (iterate 2 refine qy ?_); refine a6 ?_
 refine a8 _ rfl (fun r0 => ?_) (fun r0 => ?_)
 ·
  have h0 := r0
  have h0 := of_decide_eq_false (av h0)
  try simp only [ty] at h0
  refine sx7 ?_; (iterate 3 refine qy ?_); refine a6 ?_
  exact hx8 rfl rfl rfl (⟨ccb (awm h0).symm, CoC.refl _, trivial⟩)
 ·
  have h0 := r0
  have h0 := of_decide_eq_true (au h0)
  try simp only [ty] at h0
  refine aa ?_; refine a7 ?_
  have hkl := a81 n l
  refine gy ?_; refine qy ?_; refine a6 ?_; refine a7 ?_; refine sx7 ?_; (iterate 3 refine qy ?_); refine a6 ?_; refine ae ?_
  refine ai (ι := Nat) ⟨[(1, some _), (6, some _), (23, some _), (24, some _)], []⟩ ⟨⟨c9, c9, c9, c9, trivial⟩, trivial⟩ (fun i => ⟨[(8, some (vA (orL ((d4 n l).take i)))), (25, some (vI i))], []⟩) (fun i => i ≤ (d4 n l).length) (fun i => (d4 n l).length - i) (0) (Nat.zero_le _) ⟨⟨zy, zy, trivial⟩, trivial⟩ ?_
  rintro i hi
  refine sx7 ?_; refine qy ?_; refine a6 ?_; refine a7 ?_; refine a8 _ rfl (fun r1 => ?_) (fun r1 => ?_)
  ·
   have h1 := of_decide_eq_true r1
   try simp only [ty] at h1
   refine aa ?_; refine a7 ?_; refine ae ?_; refine sx7 ?_; (iterate 3 refine qy ?_); refine a6 ?_; refine gy ?_; (iterate 4 refine qy ?_); refine a6 ?_; refine gy ?_; (iterate 2 refine qy ?_)
   refine a6 ?_; refine ⟨i + 1, ?_, ?_, ?_⟩
   · show i + 1 ≤ _; omega
   · first | omega | (dsimp only; omega)
   · exact ⟨⟨⟨_, rfl, (c5 (by rw [bOr, xg (by omega)]; rfl))⟩, zy, c9, c9, c9, c9, trivial⟩, trivial⟩
  ·
   have h1 := of_decide_eq_false r1
   try simp only [ty] at h1
   obtain rfl : i = (d4 n l).length := by omega
   have htk : (d4 n l).take (d4 n l).length = d4 n l := List.take_length
   refine ak ?_; refine a7 ?_; refine sx7 ?_; (iterate 3 refine qy ?_); refine a6 ?_; refine ae ?_
   refine ai (ι := Nat) ⟨[(1, some _), (33, some _), (34, some _)], []⟩ ⟨⟨c9, c9, c9, trivial⟩, trivial⟩ (fun i => ⟨[(8, some (vA (orL (d4 n l)))), (35, some (vI i))], []⟩) (fun i => i ≤ (d4 n l).length ∧ (∀ j, j < i → ws l (orL (d4 n l)) ((d4 n l).getD j default) = true)) (fun i => (d4 n l).length - i) (0) (⟨Nat.zero_le _, fun j hj => absurd hj (Nat.not_lt_zero _)⟩) ⟨⟨⟨_, rfl, (c5 (by rw [htk]))⟩, zy, trivial⟩, trivial⟩ ?_
   rintro i ⟨hi, hI⟩
   refine sx7 ?_; refine qy ?_; refine a6 ?_; refine a7 ?_; refine a8 _ rfl (fun r2 => ?_) (fun r2 => ?_)
   ·
    have h2 := of_decide_eq_true r2
    try simp only [ty] at h2
    refine aa ?_; refine a7 ?_; refine ae ?_; refine sx7 ?_; (iterate 3 refine qy ?_); refine a6 ?_; refine sx7 ?_; (iterate 2 refine qy ?_); refine a6 ?_; refine ae ?_
    refine ai (ι := AS) ⟨[(1, some _), (8, some _), (12, some _), (33, some _), (34, some _), (35, some _)], []⟩ ⟨⟨c9, c9, c9, c9, c9, c9, trivial⟩, trivial⟩ (fun r => ⟨[(13, some (vA r))], []⟩) (fun r => a6e l (orL (d4 n l)) ((d4 n l).getD i default) r) (fun r => r.toNat) (((d4 n l).getD i default)) (ant l (orL (d4 n l)) ((d4 n l).getD i default)) ⟨⟨zy, trivial⟩, trivial⟩ ?_
    rintro r hr
    refine a7 ?_; refine sx7 ?_; (iterate 2 refine qy ?_); refine a6 ?_; refine a8 _ rfl (fun r3 => ?_) (fun r3 => ?_)
    ·
     have h3 := r3
     have h3 := of_decide_eq_false (av h3)
     try simp only [ty] at h3
     have hne : r ≠ 0 := fun e => h3 (by rw [e]; rfl)
     have hlow := ase hr hne
     refine aa ?_; refine a7 ?_; refine ae ?_; refine sx7 ?_; (iterate 4 refine qy ?_); refine rqw rfl rfl rfl rfl rfl ?_; (iterate 2 refine qy ?_)
     refine rc rfl rfl rfl rfl rfl rfl l7 (ng l (noA ((d4 n l).getD i default) (ee r))) (⟨CoC.refl _, cci (by rw [ap6 r hne rfl, z7]; rfl), trivial⟩) rfl rfl ?_; (iterate 3 refine qy ?_); refine a6 ?_
     refine a8 _ rfl (fun r4 => ?_) (fun r4 => ?_)
     ·
      have h4 := r4
      have h4 := of_decide_eq_false (av h4)
      try simp only [ty] at h4
      refine sx7 ?_; (iterate 2 refine qy ?_); refine a6 ?_
      exact hx8 rfl rfl rfl (⟨ccb (ajw h0 (aw3 (by omega) (avi hlow.1 hlow.2 (fun e => (by assumption : ¬ _) (fc.2 e))))).symm, cci h0.symm, trivial⟩)
     ·
      have h4 := r4
      have h4 := of_decide_eq_true (au h4)
      try simp only [ty] at h4
      refine aa ?_; refine gy ?_; (iterate 2 refine qy ?_); refine rq rfl rfl rfl rfl rfl ?_ (hp := (xc hne)); (iterate 2 refine qy ?_); refine a6 ?_; refine ⟨r &&& (r - 1), ?_, ?_, ?_⟩
      · exact anm hr hne (fc.1 (by assumption))
      · exact ah6 hne
      · exact ⟨⟨⟨_, rfl, (c5 (a1r hne))⟩, c9, c9, c9, c9, c9, c9, trivial⟩, trivial⟩
    ·
     have h3 := r3
     have h3 := of_decide_eq_true (au h3)
     try simp only [ty] at h3
     have hz : r = 0 := da.1 h3
     refine ak ?_; refine gy ?_; (iterate 2 refine qy ?_); refine a6 ?_; refine ⟨i + 1, ?_, ?_, ?_⟩
     · exact ⟨by show i + 1 ≤ _; omega, akj hI (as8 hr hz)⟩
     · first | omega | (dsimp only; omega)
     · exact ⟨⟨zy, zy, c9, c9, c9, trivial⟩, trivial⟩
   ·
    have h2 := of_decide_eq_false r2
    try simp only [ty] at h2
    obtain rfl : i = (d4 n l).length := by omega
    refine ak ?_; refine sx7 ?_; (iterate 2 refine qy ?_); refine a6 ?_
    exact hx8 rfl rfl rfl (⟨ccb (ajw h0 (av2 (fun j hj => hI j (by omega)))).symm, cci h0.symm, trivial⟩)
end Go.Hx
end
section
namespace Go.Hx
def mgR (l : List Fd) (s : AS) : AS := (l.filter fun f => decide (f.lhs = s)).foldl (fun a f => a ||| f.rhs) 0
def mgF (l : List Fd) (s : AS) : Fd := ⟨s, mgR l s⟩
def y4 (l : List Fd) : List Fd := (ord (l.map Fd.lhs)).map (mgF l)
theorem azb {l : List Fd} {s : AS} {i : Nat} (hi : i < l.length) (h : (l.getD i default).lhs = s) : mgR (l.take (i + 1)) s = mgR (l.take i) s ||| (l.getD i default).rhs := by
 unfold mgR
 rw [br hi, List.filter_append, List.foldl_append]
 simp only [List.filter_cons, h, decide_true, if_true, List.filter_nil, List.foldl_cons, List.foldl_nil]
theorem axy {l : List Fd} {s : AS} {i : Nat} (hi : i < l.length) (h : ¬ (l.getD i default).lhs = s) : mgR (l.take (i + 1)) s = mgR (l.take i) s := by
 unfold mgR
 rw [br hi, List.filter_append, List.foldl_append]
 simp only [List.filter_cons, h, decide_false, Bool.false_eq_true, if_false, List.filter_nil, List.foldl_nil]
theorem azl {l : List Fd} {s : AS} {i : Nat} (hi : i < l.length) (h : asI (l.getD i default).lhs = asI s) : PV.raw (.int .u32 (ca .or .u32 (asI (mgR (l.take i) s)) (asI (l.getD i default).rhs))) = asC (mgR (l.take (i + 1)) s) := by
 rw [bOr, azb hi (da.1 h)]
 rfl
theorem ans (l : List Fd) : (y4 l).length ≤ l.length := by
 unfold y4
 rw [List.length_map]
 exact Nat.le_trans (a0n _) (by rw [List.length_map]; exact Nat.le_refl _)
end Go.Hx
end
section
namespace Go.Hx
open Go.Proofs
def b0q (t : AS) (l : List Fd) : Prop := ∀ x ∈ l, sub x.rhs t
def ff (n : Int) (l : List Fd) : List Fd := y4 (jl n l)
theorem a9o (n : Int) (l : List Fd) : (ff n l).length ≤ 2048 := Nat.le_trans (ans _) (a2q n l)
def pt (f : Fd) : AS := f.lhs ||| f.rhs
section
variable {n : Int} {l : List Fd}
def jt (n : Int) (l : List Fd) (i : Nat) : Bool := ((ff n l).take i).any fun f => gr n l (pt f)
theorem w8 {i : Nat} (hi : i < (ff n l).length) : jt n l (i + 1) = (jt n l i || gr n l (pt ((ff n l).getD i default))) := by
 unfold jt
 rw [br hi, List.any_append]
 simp
theorem ajo (h : az n l = 0) : gr n l (b8 n) = true := decide_eq_true ⟨h, fj _, gh (aae h (fj _)) xw⟩
theorem atp (h : az n l = 0) : rkE n l (b8 n) = 0 := (awv h (ajo h)).2
def a29 (n : Int) (l : List Fd) : List AS := (ff n l).map pt
def avc (n : Int) (l : List Fd) : List AS := abu (if jt n l (ff n l).length = true then a29 n l else a29 n l ++ [rkS n l (b8 n)])
def abe (n : Int) (l : List Fd) : List AS := if az n l = 0 then avc n l else []
theorem awk (h : ¬ az n l = 0) : abe n l = [] := if_neg h
theorem ax7 (h : az n l = 0) : abe n l = avc n l := if_pos h
theorem am2 (n : Int) (l : List Fd) : (a29 n l).length ≤ 2048 := by unfold a29; rw [List.length_map]; exact a9o n l
theorem a7q (n : Int) (l : List Fd) : ((ff n l).take (ff n l).length).map pt = a29 n l := by rw [List.take_length]; rfl
def ym (n : Int) (l : List Fd) : List AS := if jt n l (ff n l).length = true then a29 n l else a29 n l ++ [rkS n l (b8 n)]
theorem v8 (h : jt n l (ff n l).length = true) : ym n l = ((ff n l).take (ff n l).length).map pt := by rw [a7q]; exact if_pos h
theorem a3s (h : jt n l (ff n l).length = false) : ym n l = ((ff n l).take (ff n l).length).map pt ++ [rkS n l (b8 n)] := by rw [a7q]; exact if_neg (by rw [h]; decide)
theorem alp (n : Int) (l : List Fd) : (ym n l).length ≤ 4096 := by
 have := am2 n l
 unfold ym
 split
 · omega
 · rw [List.length_append, List.length_singleton]; omega
theorem apt {i : Nat} (hi : i < (ff n l).length) (h : jt n l i = true) : true = jt n l (i + 1) := by rw [w8 hi, h]; rfl
theorem aoq {i : Nat} (hi : i < (ff n l).length) (h : jt n l i = false) : gr n l (pt ((ff n l).getD i default)) = jt n l (i + 1) := by rw [w8 hi, h]; rfl
theorem aox {i : Nat} (hi : i < (ff n l).length) : (bif jt n l i then true else gr n l (pt ((ff n l).getD i default))) = jt n l (i + 1) := by rw [w8 hi]; cases jt n l i <;> rfl
end
end Go.Hx
end
section
namespace Go.Hx
open Go.Proofs
set_option maxRecDepth 100000
theorem auk : goodFn Tryz.prog 137 := ⟨Tryz.f137, Tryz.func137, by kernel_rfl, by kernel_rfl⟩
theorem axp : goodFn Tryz.prog 87 := ⟨Tryz.f87, Tryz.func87, by kernel_rfl, by kernel_rfl⟩
theorem awh (hM : ∀ k : List Fd, k.length ≤ 16777216 → ah Tryz.prog 137 [pP (fdl k)] (ap [pP (fdl (y4 k))])) (n : Int) (l : List Fd) : ah Tryz.prog 87 [pI n, pP (fdl l)] (ap [pP (fdl (ff n l)), pI (az n l)]) := by
 refine ag (nt := 17) af Tryz.func87 rfl rfl l9 ?_; refine sx7 ?_; (iterate 2 refine qy ?_); refine a6 ?_; refine sx7 ?_; (iterate 2 refine qy ?_)
 refine rc rfl rfl rfl rfl rfl rfl adb (ap8 n l) (CoL.refl _) rfl rfl ?_; (iterate 5 refine qy ?_); refine a6 ?_; refine a7 ?_
 have hml := a2q n l
 refine gy ?_; refine qy ?_; refine rc rfl rfl rfl rfl rfl rfl auk (hM (jl n l) (by omega)) (CoL.refl _) rfl rfl ?_; (iterate 3 refine qy ?_); refine a6 ?_
 exact hx8 rfl rfl rfl (CoL.refl _)
theorem avh : goodFn Tryz.prog 43 := ⟨Tryz.f43, Tryz.func43, by kernel_rfl, by kernel_rfl⟩
theorem as5 (hM : ∀ k : List Fd, k.length ≤ 16777216 → ah Tryz.prog 137 [pP (fdl k)] (ap [pP (fdl (y4 k))])) (n : Int) (l : List Fd) : ah Tryz.prog 43 [pI n, pP (fdl l)] (ap [pP (asl (abe n l)), pI (az n l)]) := by
 refine ag (nt := 66) af Tryz.func43 rfl rfl l9 ?_; refine sx7 ?_; (iterate 2 refine qy ?_); refine a6 ?_; refine sx7 ?_; (iterate 2 refine qy ?_)
 refine rc rfl rfl rfl rfl rfl rfl axp (awh hM n l) (CoL.refl _) rfl rfl ?_; (iterate 5 refine qy ?_); refine a6 ?_; refine a7 ?_; refine sx7 ?_; (iterate 2 refine qy ?_); refine a6 ?_
 refine a8 _ rfl (fun r0 => ?_) (fun r0 => ?_)
 ·
  have h0 := r0
  have h0 := of_decide_eq_false (av h0)
  try simp only [ty] at h0
  refine sx7 ?_; (iterate 3 refine qy ?_); refine a6 ?_
  exact hx8 rfl rfl rfl (⟨CoC.one (ax2 (awk h0)), CoC.refl _, trivial⟩)
 ·
  have h0 := r0
  have h0 := of_decide_eq_true (au h0)
  try simp only [ty] at h0
  refine aa ?_; refine a7 ?_
  have hv := d9 h0
  have hcl := a9o n l
  have hsl := alp n l
  refine gy ?_; refine qy ?_; refine a6 ?_; refine sx7 ?_; refine qy ?_; refine a6 ?_; refine a7 ?_; refine sx7 ?_; (iterate 3 refine qy ?_); refine a6 ?_; refine ae ?_
  refine dm 8 900 true 1 38 (lf sC []) (by decide) rfl (CoP.sl rfl (.inr rfl) (fun h => h) (fun i j hi _ => absurd hi (Nat.not_lt_zero i))) (.inr rfl) rfl ?_
  refine ai (ι := Nat) ⟨[(0, some _), (1, some _), (24, some _), (25, some _)], []⟩ ⟨⟨c9, c9, c9, c9, trivial⟩, trivial⟩ (fun i => ⟨[(8, some (.v (.one (.ref 900 (((ff n l).take i).map pt).length)))), (9, some (vB (jt n l i))), (26, some (vI i))], [(900, some (.arr true 1 38 (((ff n l).take i).map pt).length (lf sC (((ff n l).take i).map pt))))]⟩) (fun i => i ≤ (ff n l).length) (fun i => (ff n l).length - i) (0) (Nat.zero_le _) ⟨⟨zy, ⟨_, rfl, (cob rfl)⟩, zy, trivial⟩, ⟨u9, trivial⟩⟩ ?_
  rintro i hi
  have hlen : (((ff n l).take i).map pt).length ≤ i := by rw [List.length_map, List.length_take]; omega
  refine sx7 ?_; refine qy ?_; refine a6 ?_; refine a7 ?_; refine a8 _ rfl (fun r1 => ?_) (fun r1 => ?_)
  ·
   have h1 := of_decide_eq_true r1
   try simp only [ty] at h1
   refine aa ?_; refine a7 ?_; refine ae ?_; refine sx7 ?_; (iterate 2 refine qy ?_); refine m9 0 ?_; refine s9 ?_; refine a6 ?_; refine sx7 ?_; (iterate 6 refine qy ?_); refine a6 ?_; refine sx7 ?_
   (iterate 2 refine qy ?_); refine m9 1 ?_; refine ra 2 true rfl rfl rfl rfl rfl rfl ?_; refine qy ?_; refine a6 ?_; refine gy ?_; (iterate 2 refine qy ?_); refine aw rfl rfl (fun r2 => ?_) (fun r2 => ?_)
   ·
    have h2 := r2
    (iterate 4 refine k9 (gtf r2) ?_); refine rq rfl rfl rfl rfl rfl ?_ (hp := r2); refine qy ?_; refine a6 ?_; refine gy ?_; (iterate 2 refine qy ?_); refine a6 ?_; refine ⟨i + 1, ?_, ?_, ?_⟩
    · show i + 1 ≤ _; omega
    · first | omega | (dsimp only; omega)
    · exact ⟨⟨⟨_, rfl, (df (y6 (by omega)))⟩, ⟨_, rfl, (cob (by first | exact apt (n := n) (l := l) (i := i) (by omega) (by assumption) | exact aoq (n := n) (l := l) (i := i) (by omega) (by assumption) | exact aox (n := n) (l := l) (i := i) (by omega)))⟩, zy, c9, c9, c9, c9, trivial⟩, ⟨⟨_, rfl, (ek (y6 (by omega)) (CoP.of_eq (congrArg (fun z => PV.raw (.int .u32 z)) (bOr _ _))))⟩, trivial⟩⟩
   ·
    have h2 := r2
    (iterate 3 refine qy ?_ (hg := (gff r2))); refine rc rfl rfl rfl rfl rfl rfl aa7 (af1 n l (pt ((ff n l).getD i default))) (⟨CoC.refl _, CoC.refl _, cci (bOr _ _), trivial⟩) rfl (gff r2) ?_; (iterate 2 refine qy ?_)
    refine a6 ?_; refine gy ?_; (iterate 2 refine qy ?_); refine a6 ?_; refine ⟨i + 1, ?_, ?_, ?_⟩
    · show i + 1 ≤ _; omega
    · first | omega | (dsimp only; omega)
    · exact ⟨⟨⟨_, rfl, (df (y6 (by omega)))⟩, ⟨_, rfl, (cob (by first | exact apt (n := n) (l := l) (i := i) (by omega) (by assumption) | exact aoq (n := n) (l := l) (i := i) (by omega) (by assumption) | exact aox (n := n) (l := l) (i := i) (by omega)))⟩, zy, c9, c9, c9, c9, trivial⟩, ⟨⟨_, rfl, (ek (y6 (by omega)) (CoP.of_eq (congrArg (fun z => PV.raw (.int .u32 z)) (bOr _ _))))⟩, trivial⟩⟩
  ·
   have h1 := of_decide_eq_false r1
   try simp only [ty] at h1
   obtain rfl : i = (ff n l).length := by omega
   refine ak ?_
   refine dc (ι := Unit) ⟨[], []⟩ ⟨trivial, trivial⟩ (fun _i => ⟨[(8, some (.v (.one (.ref 900 (ym n l).length))))], [(900, some (.arr true 1 38 (ym n l).length (lf sC (ym n l))))]⟩) (fun _i => True) ?_ ?_
   ·
    refine sx7 ?_; (iterate 2 refine qy ?_); refine a6 ?_; refine a8 _ rfl (fun r3 => ?_) (fun r3 => ?_)
    ·
     have h3 := r3
     have h3 := av h3
     refine sx7 ?_; (iterate 3 refine qy ?_); refine rc rfl rfl rfl rfl rfl rfl ajh (ait n hv.1 hv.2.1) (CoL.refl _) rfl rfl ?_; refine rc rfl rfl rfl rfl rfl rfl axi (ast n l (b8 n)) (CoL.refl _) rfl rfl ?_
     (iterate 5 refine qy ?_); refine a6 ?_; refine a7 ?_; refine sx7 ?_; (iterate 2 refine qy ?_); refine a6 ?_; refine a8 _ rfl (fun r4 => ?_) (fun r4 => ?_)
     ·
      have h4 := r4
      have h4 := of_decide_eq_false (av h4)
      try simp only [ty] at h4
      exfalso
      exact h4 (atp h0)
     ·
      have h4 := r4
      have h4 := of_decide_eq_true (au h4)
      try simp only [ty] at h4
      refine aa ?_; refine gy ?_; (iterate 2 refine qy ?_); refine m9 3 ?_; refine ra 4 true rfl rfl rfl rfl rfl rfl ?_; refine qy ?_; refine a6 ?_; refine ⟨(), ?_, ?_⟩
      · trivial
      · exact ⟨⟨⟨_, rfl, (by first | exact sq (by rw [v8 (by assumption)]) | exact sq (by rw [a3s (by assumption), List.length_append]; rfl))⟩, trivial⟩, ⟨⟨_, rfl, (by first | exact gw (v8 (by assumption)) (by rw [v8 (by assumption)]) | exact ek (a3s (by assumption)) (CoP.refl _))⟩, trivial⟩⟩
    ·
     have h3 := r3
     have h3 := au h3
     refine aa ?_; refine ⟨(), ?_, ?_⟩
     · trivial
     · exact ⟨⟨⟨_, rfl, (by first | exact sq (by rw [v8 (by assumption)]) | exact sq (by rw [a3s (by assumption), List.length_append]; rfl))⟩, trivial⟩, ⟨⟨_, rfl, (by first | exact gw (v8 (by assumption)) (by rw [v8 (by assumption)]) | exact ek (a3s (by assumption)) (CoP.refl _))⟩, trivial⟩⟩
   · rintro _ _
     refine a7 ?_; refine bq 8 rfl rfl rfl ?_; refine gy ?_; refine qy ?_; refine rc rfl rfl rfl rfl rfl rfl av6 (alr (ym n l) (by omega)) (CoL.refl _) rfl rfl ?_; (iterate 2 refine qy ?_); refine a6 ?_
     exact hx8 rfl rfl rfl (⟨CoC.one (CoP.of_eq (by rw [ax7 h0]; rfl)), cci h0.symm, trivial⟩)
end Go.Hx
end
