/- A part of the proof: V30 Cs32 V31 Cs33 V32 Cs34 Cs35. -/
import Derived.Test.YtidophngianjiaaGreatDoor10x34
set_option linter.all false
section
namespace Go.Hx
open Go.Proofs
set_option maxRecDepth 100000
set_option maxHeartbeats 1000000
theorem aur : goodFn Tryz.prog 135 := ⟨Tryz.f135, Tryz.func135, by kernel_rfl, by kernel_rfl⟩
theorem aks (l : List Fd) (p : AS) (hp : p.toNat < 65536) : ah Tryz.prog 135 [pP (fdl l), pA p] (ap [pA (fm l p)]) := by
 refine ag (nt := 46) af Tryz.func135 rfl rfl l9 ?_; refine sx7 ?_; refine qy ?_; refine a6 ?_; refine sx7 ?_; refine qy ?_; refine a6 ?_; refine a7 ?_; refine sx7 ?_; refine qy ?_; refine a6 ?_
 refine ae ?_
 refine ai (ι := Nat) ⟨[(0, some _), (1, some _)], []⟩ ⟨⟨c9, c9, trivial⟩, trivial⟩ (fun i => ⟨[(5, some (vA (gv l p i))), (6, some (.v (.one (.p (.raw (.int .u32 (i : Int)))))))], []⟩) (fun i => i ≤ p.toNat + 1) (fun i => p.toNat + 1 - i) (0) (Nat.zero_le _) ⟨⟨⟨_, rfl, (c8 rfl)⟩, zy, trivial⟩, trivial⟩ ?_
 rintro i hi
 have hsa : asI p = (p.toNat : Int) := rfl
 refine a7 ?_; refine sx7 ?_; (iterate 3 refine qy ?_); refine a6 ?_; refine a8 _ rfl (fun r0 => ?_) (fun r0 => ?_)
 ·
  have h0 := of_decide_eq_true r0
  try simp only [ty] at h0
  refine aa ?_; refine a7 ?_; refine ae ?_; refine a7 ?_; refine sx7 ?_; (iterate 5 refine qy ?_); refine bc rfl rfl (fun r1 => ?_) (fun r1 => ?_)
  ·
   have h1 := r1
   have h1 := of_decide_eq_false (ax h1)
   try simp only [ty] at h1
   (iterate 5 refine k9 (gtf r1) ?_); refine rq rfl rfl rfl rfl rfl ?_ (hp := r1); refine a6 ?_; refine a8 _ rfl (fun _ => ?_) (fun e => by cases e); refine ak ?_; refine gy ?_; (iterate 3 refine qy ?_)
   refine a6 ?_; refine ⟨i + 1, ?_, ?_, ?_⟩
   · show i + 1 ≤ _; omega
   · first | omega | (dsimp only; omega)
   · exact ⟨⟨⟨_, rfl, (by first | exact c8 (agw (by omega) (by assumption)) | exact c8 (aiq (by assumption)) | exact c8 (ahm (by omega) (by assumption) (by assumption) (by assumption)) | exact c8 (ahx (by assumption)))⟩, zy, c9, c9, trivial⟩, trivial⟩
  ·
   have h1 := r1
   have h1 := of_decide_eq_true (aw h1)
   try simp only [ty] at h1
   (iterate 3 refine qy ?_ (hg := (gff r1))); refine rc rfl rfl rfl rfl rfl rfl a6o (ar2 l (BitVec.ofNat 32 i) p) (⟨CoC.refl _, cci (f5 (by omega)), CoC.refl _, trivial⟩) rfl (gff r1) ?_; refine qy ?_ (hg := (gff r1))
   refine qy ?_; refine a6 ?_; refine a8 _ rfl (fun r2 => ?_) (fun r2 => ?_)
   ·
    have h2 := r2
    have h2 := bn r1 h2
    have h2 := ax h2
    refine ak ?_; refine gy ?_; (iterate 3 refine qy ?_); refine a6 ?_; refine ⟨i + 1, ?_, ?_, ?_⟩
    · show i + 1 ≤ _; omega
    · first | omega | (dsimp only; omega)
    · exact ⟨⟨⟨_, rfl, (by first | exact c8 (agw (by omega) (by assumption)) | exact c8 (aiq (by assumption)) | exact c8 (ahm (by omega) (by assumption) (by assumption) (by assumption)) | exact c8 (ahx (by assumption)))⟩, zy, c9, c9, trivial⟩, trivial⟩
   ·
    have h2 := r2
    have h2 := bn r1 h2
    have h2 := aw h2
    refine aa ?_; refine sx7 ?_; refine qy ?_; refine a6 ?_; refine a7 ?_; refine sx7 ?_; refine qy ?_; refine a6 ?_; refine ae ?_
    refine ai (ι := Nat) ⟨[(0, some _), (1, some _), (5, some _), (6, some _)], []⟩ ⟨⟨c9, c9, c9, c9, trivial⟩, trivial⟩ (fun a => ⟨[(7, some (vB (th l p (BitVec.ofNat 32 i) a))), (8, some (vI a))], []⟩) (fun a => a ≤ 32) (fun a => 32 - a) (0) (Nat.zero_le _) ⟨⟨⟨_, rfl, (cob rfl)⟩, zy, trivial⟩, trivial⟩ ?_
    rintro a ha
    refine a7 ?_; refine sx7 ?_; (iterate 2 refine qy ?_); refine a6 ?_; refine a8 _ rfl (fun r3 => ?_) (fun r3 => ?_)
    ·
     have h3 := of_decide_eq_true r3
     try simp only [ty] at h3
     refine aa ?_; refine a7 ?_; refine ae ?_; refine sx7 ?_; (iterate 2 refine qy ?_)
     refine rc rfl rfl rfl rfl rfl rfl sb (a6x (BitVec.ofNat 32 i) a) (⟨cci (f5 (by omega)), CoC.refl _, trivial⟩) rfl rfl ?_; refine qy ?_; refine bc rfl rfl (fun r4 => ?_) (fun r4 => ?_)
     ·
      have h4 := r4
      (iterate 6 refine qy ?_ (hg := (gtt r4)))
      refine rc rfl rfl rfl rfl rfl rfl a6o (ar2 l (noA (BitVec.ofNat 32 i) a) p) (⟨CoC.refl _, cci (by rw [f5 (n := i) (by omega)]; exact a9z _ _ rfl), CoC.refl _, trivial⟩) rfl (gtt r4) ?_; refine qy ?_
      refine a6 ?_; refine a8 _ rfl (fun r5 => ?_) (fun r5 => ?_)
      ·
       have h5 := r5
       have h5 := cj r4 h5
       refine gy ?_; refine qy ?_; refine a6 ?_; refine gy ?_; (iterate 3 refine qy ?_); refine a6 ?_; refine ⟨a + 1, ?_, ?_, ?_⟩
       · show a + 1 ≤ _; omega
       · first | omega | (dsimp only; omega)
       · exact ⟨⟨⟨_, rfl, (cob (by first | exact (aan (by omega) (by assumption) (by assumption)).symm | exact (a80 (by omega) (by assumption)).symm | exact (a6w (by assumption)).symm))⟩, zy, c9, c9, c9, c9, trivial⟩, trivial⟩
      ·
       have h5 := r5
       have h5 := cj r4 h5
       refine aa ?_; refine gy ?_; (iterate 3 refine qy ?_); refine a6 ?_; refine ⟨a + 1, ?_, ?_, ?_⟩
       · show a + 1 ≤ _; omega
       · first | omega | (dsimp only; omega)
       · exact ⟨⟨⟨_, rfl, (cob (by first | exact (aan (by omega) (by assumption) (by assumption)).symm | exact (a80 (by omega) (by assumption)).symm | exact (a6w (by assumption)).symm))⟩, zy, c9, c9, c9, c9, trivial⟩, trivial⟩
     ·
      have h4 := r4
      (iterate 7 refine k9 (gft r4) ?_); refine rq rfl rfl rfl rfl rfl ?_ (hp := r4); refine a6 ?_; refine a8 _ rfl (fun e => by cases e) (fun _ => ?_); refine aa ?_; refine gy ?_; (iterate 3 refine qy ?_)
      refine a6 ?_; refine ⟨a + 1, ?_, ?_, ?_⟩
      · show a + 1 ≤ _; omega
      · first | omega | (dsimp only; omega)
      · exact ⟨⟨⟨_, rfl, (cob (by first | exact (aan (by omega) (by assumption) (by assumption)).symm | exact (a80 (by omega) (by assumption)).symm | exact (a6w (by assumption)).symm))⟩, zy, c9, c9, c9, c9, trivial⟩, trivial⟩
    ·
     have h3 := of_decide_eq_false r3
     try simp only [ty] at h3
     obtain rfl : a = 32 := by omega
     refine ak ?_; refine sx7 ?_; refine qy ?_; refine a6 ?_; refine a8 _ rfl (fun r6 => ?_) (fun r6 => ?_)
     ·
      have h6 := r6
      refine gy ?_; (iterate 4 refine qy ?_); refine a6 ?_; refine gy ?_; (iterate 3 refine qy ?_); refine a6 ?_; refine ⟨i + 1, ?_, ?_, ?_⟩
      · show i + 1 ≤ _; omega
      · first | omega | (dsimp only; omega)
      · exact ⟨⟨⟨_, rfl, (by first | exact c8 (agw (by omega) (by assumption)) | exact c8 (aiq (by assumption)) | exact c8 (ahm (by omega) (by assumption) (by assumption) (by assumption)) | exact c8 (ahx (by assumption)))⟩, zy, c9, c9, trivial⟩, trivial⟩
     ·
      have h6 := r6
      refine aa ?_; refine gy ?_; (iterate 3 refine qy ?_); refine a6 ?_; refine ⟨i + 1, ?_, ?_, ?_⟩
      · show i + 1 ≤ _; omega
      · first | omega | (dsimp only; omega)
      · exact ⟨⟨⟨_, rfl, (by first | exact c8 (agw (by omega) (by assumption)) | exact c8 (aiq (by assumption)) | exact c8 (ahm (by omega) (by assumption) (by assumption) (by assumption)) | exact c8 (ahx (by assumption)))⟩, zy, c9, c9, trivial⟩, trivial⟩
 ·
  have h0 := of_decide_eq_false r0
  try simp only [ty] at h0
  have hie : i = p.toNat + 1 := by omega
  refine ak ?_; refine sx7 ?_; (iterate 2 refine qy ?_); refine a6 ?_
  exact hx8 rfl rfl rfl (⟨cci (congrArg asI (ah2 hie)), trivial⟩)
theorem b0c : goodFn Tryz.prog 86 := ⟨Tryz.f86, Tryz.func86, by kernel_rfl, by kernel_rfl⟩
theorem ajf (l : List Fd) (p : AS) (hp : p.toNat < 65536) : ah Tryz.prog 86 [pP (fdl l), pA p] (ap [pB (ci l p)]) := by
 refine ag (nt := 38) af Tryz.func86 rfl rfl l9 ?_; refine sx7 ?_; refine qy ?_; refine a6 ?_; refine sx7 ?_; (iterate 2 refine qy ?_)
 refine rc rfl rfl rfl rfl rfl rfl aur (aks l p hp) (CoL.refl _) rfl rfl ?_; refine qy ?_; refine a6 ?_; refine a7 ?_; refine sx7 ?_; refine qy ?_; refine a6 ?_; refine ae ?_
 refine ai (ι := Nat) ⟨[(0, some _), (1, some _), (5, some _)], []⟩ ⟨⟨c9, c9, c9, trivial⟩, trivial⟩ (fun i => ⟨[(6, some (.v (.one (.p (.raw (.int .u32 (i : Int)))))))], []⟩) (fun i => i ≤ p.toNat + 1 ∧ ∀ j, j < i → (decide (sub (BitVec.ofNat 32 j) p) && kp l p (BitVec.ofNat 32 j)) = false) (fun i => p.toNat + 1 - i) (0) (⟨Nat.zero_le _, bu⟩) ⟨⟨zy, trivial⟩, trivial⟩ ?_
 rintro i ⟨hi, hI⟩
 have hsa : asI p = (p.toNat : Int) := rfl
 refine a7 ?_; refine sx7 ?_; (iterate 3 refine qy ?_); refine a6 ?_; refine a8 _ rfl (fun r0 => ?_) (fun r0 => ?_)
 ·
  have h0 := of_decide_eq_true r0
  try simp only [ty] at h0
  refine aa ?_; refine a7 ?_; refine ae ?_; refine sx7 ?_; (iterate 5 refine qy ?_); refine bc rfl rfl (fun r1 => ?_) (fun r1 => ?_)
  ·
   have h1 := of_decide_eq_true r1
   try simp only [ty] at h1
   (iterate 3 refine qy ?_ (hg := (gtt r1))); refine rc rfl rfl rfl rfl rfl rfl a6o (ar2 l (BitVec.ofNat 32 i) p) (⟨CoC.refl _, cci (f5 (by omega)), CoC.refl _, trivial⟩) rfl (gtt r1) ?_; refine qy ?_ (hg := (gtt r1))
   (iterate 2 refine qy ?_); refine bc rfl rfl (fun r2 => ?_) (fun r2 => ?_)
   ·
    have h2 := r2
    have h2 := cj r1 h2
    have h2 := ax h2
    (iterate 2 refine qy ?_ (hg := (gtt r2))); refine rc rfl rfl rfl rfl rfl rfl a1e (a0v l (BitVec.ofNat 32 i)) (⟨CoC.refl _, cci (f5 (by omega)), trivial⟩) rfl (gtt r2) ?_
    (iterate 7 refine qy ?_ (hg := (gtt r2))); refine qy ?_; refine a6 ?_; refine a8 _ rfl (fun r3 => ?_) (fun r3 => ?_)
    ·
     have h3 := r3
     have h3 := cj r2 h3
     have h3 := of_decide_eq_false (ax h3)
     try simp only [ty] at h3
     refine sx7 ?_; refine qy ?_; refine a6 ?_
     exact hx8 rfl rfl rfl (⟨ccb (agf (x := BitVec.ofNat 32 i) ((sm (i := i) (by omega)).1 (by assumption)) (asi (by assumption) (by rw [← f5 (n := i) (by omega)]; assumption))).symm, trivial⟩)
    ·
     have h3 := r3
     have h3 := cj r2 h3
     have h3 := of_decide_eq_true (aw h3)
     try simp only [ty] at h3
     refine aa ?_; refine gy ?_; (iterate 3 refine qy ?_); refine a6 ?_; refine ⟨i + 1, ?_, ?_, ?_⟩
     · exact ⟨by show i + 1 ≤ _; omega, bf hI (by first | exact ade (by omega) (by assumption) | exact ws (a06 (by assumption)) | exact ws (zu (by rw [← f5 (n := i) (by omega)]; assumption)))⟩
     · first | omega | (dsimp only; omega)
     · exact ⟨⟨zy, c9, c9, c9, trivial⟩, trivial⟩
   ·
    have h2 := r2
    have h2 := cj r1 h2
    have h2 := aw h2
    (iterate 10 refine k9 (gft r2) ?_); refine rq rfl rfl rfl rfl rfl ?_ (hp := r2); refine a6 ?_; refine a8 _ rfl (fun e => by cases e) (fun _ => ?_); refine aa ?_; refine gy ?_; (iterate 3 refine qy ?_)
    refine a6 ?_; refine ⟨i + 1, ?_, ?_, ?_⟩
    · exact ⟨by show i + 1 ≤ _; omega, bf hI (by first | exact ade (by omega) (by assumption) | exact ws (a06 (by assumption)) | exact ws (zu (by rw [← f5 (n := i) (by omega)]; assumption)))⟩
    · first | omega | (dsimp only; omega)
    · exact ⟨⟨zy, c9, c9, c9, trivial⟩, trivial⟩
  ·
   have h1 := of_decide_eq_false r1
   try simp only [ty] at h1
   (iterate 5 refine k9 (gft r1) ?_); refine rq rfl rfl rfl rfl rfl ?_ (hp := r1); refine qy ?_; (iterate 10 refine k9 rfl ?_); refine qy ?_; refine a6 ?_; refine a8 _ rfl (fun e => by cases e) (fun _ => ?_)
   refine aa ?_; refine gy ?_; (iterate 3 refine qy ?_); refine a6 ?_; refine ⟨i + 1, ?_, ?_, ?_⟩
   · exact ⟨by show i + 1 ≤ _; omega, bf hI (by first | exact ade (by omega) (by assumption) | exact ws (a06 (by assumption)) | exact ws (zu (by rw [← f5 (n := i) (by omega)]; assumption)))⟩
   · first | omega | (dsimp only; omega)
   · exact ⟨⟨zy, c9, c9, c9, trivial⟩, trivial⟩
 ·
  have h0 := of_decide_eq_false r0
  try simp only [ty] at h0
  have hie : i = p.toNat + 1 := by omega
  refine ak ?_; refine sx7 ?_; refine qy ?_; refine a6 ?_
  exact hx8 rfl rfl rfl (⟨ccb (awz hie hI).symm, trivial⟩)
theorem ayx : goodFn Tryz.prog 84 := ⟨Tryz.f84, Tryz.func84, by kernel_rfl, by kernel_rfl⟩
theorem aw9 (n : Int) (l : List Fd) (p : AS) : ah Tryz.prog 84 [pI n, pP (fdl l), pA p] (ap [pB (yg n l p), pI (qv n l p)]) := by
 refine ag (nt := 50) af Tryz.func84 rfl rfl l9 ?_; refine sx7 ?_; (iterate 2 refine qy ?_); refine a6 ?_; refine a7 ?_; refine sx7 ?_; (iterate 2 refine qy ?_)
 refine rc rfl rfl rfl rfl rfl rfl tj (sx n l) (CoL.refl _) rfl rfl ?_; refine qy ?_; refine a6 ?_; refine sx7 ?_; (iterate 2 refine qy ?_); refine a6 ?_; refine a8 _ rfl (fun r0 => ?_) (fun r0 => ?_)
 ·
  have h0 := r0
  have h0 := of_decide_eq_false (ax h0)
  try simp only [ty] at h0
  refine sx7 ?_; (iterate 3 refine qy ?_); refine a6 ?_; refine am ?_; refine ⟨.inr rfl, ?_⟩
  have he := b1t (p := p) h0
  exact f9 rfl rfl (⟨ccb he.2.symm, cci he.1.symm, trivial⟩)
 ·
  have h0 := r0
  have h0 := of_decide_eq_true (aw h0)
  try simp only [ty] at h0
  refine aa ?_; (iterate 2 refine a7 ?_)
  have hv := cr h0
  have hsh := air (s := p) (n := n) hv.1 hv.2.1
  refine gy ?_; (iterate 4 refine qy ?_); refine a6 ?_; refine a8 _ rfl (fun r1 => ?_) (fun r1 => ?_)
  ·
   have h1 := r1
   have h1 := of_decide_eq_false (ax h1)
   try simp only [ty] at h1
   refine sx7 ?_; (iterate 2 refine qy ?_); refine a6 ?_; refine am ?_; refine ⟨.inr rfl, ?_⟩
   have he := b0z h0 (fun e => h1 (hsh.2 e))
   exact f9 rfl rfl (⟨ccb he.2.symm, cci he.1.symm, trivial⟩)
  ·
   have h1 := r1
   have h1 := of_decide_eq_true (aw h1)
   try simp only [ty] at h1
   refine aa ?_; refine sx7 ?_; (iterate 2 refine qy ?_); refine rc rfl rfl rfl rfl rfl rfl avs (av5 l p) (CoL.refl _) rfl rfl ?_; refine qy ?_; refine a6 ?_; (iterate 2 refine a7 ?_)
   have htl := a8u p
   refine gy ?_; refine qy ?_; refine rc rfl rfl rfl rfl rfl rfl af3 (ajp p) (CoL.refl _) rfl rfl ?_; (iterate 2 refine qy ?_); refine a6 ?_; refine ae ?_
   refine ai (ι := Nat) ⟨[(1, some _), (2, some _), (9, some _), (27, some _), (28, some _)], []⟩ ⟨⟨c9, c9, c9, c9, c9, trivial⟩, trivial⟩ (fun i => ⟨[(29, some (vI i))], []⟩) (fun i => i ≤ (dx p).length ∧ (∀ j, j < i → kp l p ((dx p).getD j default) = false)) (fun i => (dx p).length - i) (0) (⟨Nat.zero_le _, bu⟩) ⟨⟨zy, trivial⟩, trivial⟩ ?_
   rintro i ⟨hi, hI⟩
   refine sx7 ?_; refine qy ?_; refine a6 ?_; refine a7 ?_; refine a8 _ rfl (fun r2 => ?_) (fun r2 => ?_)
   ·
    have h2 := of_decide_eq_true r2
    try simp only [ty] at h2
    refine aa ?_; refine a7 ?_; refine ae ?_; refine sx7 ?_; (iterate 3 refine qy ?_); refine a6 ?_; refine sx7 ?_; (iterate 2 refine qy ?_)
    refine rc rfl rfl rfl rfl rfl rfl mb (ot l ((dx p).getD i default)) (CoL.refl _) rfl rfl ?_; (iterate 3 refine qy ?_); refine a6 ?_; refine sx7 ?_; (iterate 4 refine qy ?_)
    refine bc rfl rfl (fun r3 => ?_) (fun r3 => ?_)
    ·
     have h3 := r3
     have h3 := of_decide_eq_false (ax h3)
     try simp only [ty] at h3
     (iterate 6 refine qy ?_ (hg := (gtt r3))); refine qy ?_; refine a6 ?_; refine a8 _ rfl (fun r4 => ?_) (fun r4 => ?_)
     ·
      have h4 := r4
      have h4 := cj r3 h4
      have h4 := of_decide_eq_false (ax h4)
      try simp only [ty] at h4
      refine sx7 ?_; (iterate 2 refine qy ?_); refine a6 ?_; refine am ?_; refine ⟨.inr rfl, ?_⟩
      have he := arx h0 (hsh.1 h1)
      have hb := agf (kg.1 (acv (l := dx p) (j := i) (by omega))) (asi (b0o h3) h4)
      exact f9 rfl rfl (⟨ccb (by rw [he.2, hb]), cci he.1.symm, trivial⟩)
     ·
      have h4 := r4
      have h4 := cj r3 h4
      have h4 := of_decide_eq_true (aw h4)
      try simp only [ty] at h4
      refine aa ?_; refine gy ?_; (iterate 2 refine qy ?_); refine a6 ?_; refine ⟨i + 1, ?_, ?_, ?_⟩
      · exact ⟨by show i + 1 ≤ _; omega, bf hI (by first | exact a06 (aro h3) | exact zu h4)⟩
      · first | omega | (dsimp only; omega)
      · exact ⟨⟨zy, c9, c9, c9, c9, c9, trivial⟩, trivial⟩
    ·
     have h3 := r3
     have h3 := of_decide_eq_true (aw h3)
     try simp only [ty] at h3
     (iterate 6 refine k9 (gft r3) ?_); refine rq rfl rfl rfl rfl rfl ?_ (hp := r3); refine a6 ?_; refine a8 _ rfl (fun e => by cases e) (fun _ => ?_); refine aa ?_; refine gy ?_; (iterate 2 refine qy ?_)
     refine a6 ?_; refine ⟨i + 1, ?_, ?_, ?_⟩
     · exact ⟨by show i + 1 ≤ _; omega, bf hI (by first | exact a06 (aro h3) | exact zu h4)⟩
     · first | omega | (dsimp only; omega)
     · exact ⟨⟨zy, c9, c9, c9, c9, c9, trivial⟩, trivial⟩
   ·
    have h2 := of_decide_eq_false r2
    try simp only [ty] at h2
    obtain rfl : i = (dx p).length := by omega
    refine ak ?_; refine sx7 ?_; (iterate 2 refine qy ?_); refine a6 ?_; refine am ?_; refine ⟨.inr rfl, ?_⟩
    have he := arx h0 (hsh.1 h1)
    have hb := anl hI
    exact f9 rfl rfl (⟨ccb (by rw [he.2, hb]), cci he.1.symm, trivial⟩)
end Go.Hx
end
section
namespace Go.Hx
theorem vo {l : List Fd} {i : Nat} {x : Fd} (h : x ∈ ck l i) : x ∈ l := by
 unfold ck at h
 rcases List.mem_append.1 h with h | h
 · exact List.mem_of_mem_take h
 · exact List.mem_of_mem_drop h
theorem nx {x : Fd} : ∀ (f : Nat) (l : List Fd) (i : Nat), x ∈ gw f l i → x ∈ l
 | 0, l, i, h => h
 | f + 1, l, i, h => by
  unfold gw at h
  split at h
  · split at h
    · exact vo (nx f _ _ h)
    · exact nx f _ _ h
  · exact h
theorem aws {n : Int} {l : List Fd} (h : av n l = 0) : oi (aq n) (jq l) := fun x hx => by
 have h1 := nx _ _ _ hx
 exact aen (axt (aqn h)) _ x (ir.1 h1)
section
variable {n : Int} {l : List Fd}
theorem a07 (h : av n l = 0) {x : AS} (hx : sub x (aq n)) : sub (aq n) (clo l x) ↔ clo l x = aq n :=
 ⟨fun e => df (sv h hx) e, fun e => by rw [e]; exact dh _⟩
theorem a00 (h : av n l = 0) {x : AS} (hx : sub x (aq n)) : eo n l x = go l (aq n) x := by
 unfold eo go
 exact decide_eq_decide.2 ⟨fun e => (a07 h hx).2 e.2.2, fun e => ⟨h, hx, (a07 h hx).1 e⟩⟩
theorem agl {x : AS} {a : Nat} : sub (noA x a) x := d8
theorem aor {n : Int} (h0 : 0 ≤ n) (h1 : n ≤ 16) {k : Nat} (hk : k < 32) : (aq n).getLsbD k = decide (k < n.toNat) := by
 unfold aq
 rw [jj _ k hk, Nat.min_eq_left (by omega)]
theorem a5g (h : av n l = 0) {x : AS} (hx : sub x (aq n)) : qe n l x = ou l (aq n) x := by
 obtain ⟨h0, h1, _⟩ := cr h
 unfold qe ou
 rw [a00 h hx]
 congr 1
 unfold pk
 rw [Bool.eq_iff_iff, List.all_eq_true, List.all_eq_true]
 constructor
 · intro hh a ha
   rw [List.mem_range] at ha
   cases hb : x.getLsbD a with
   | false => rfl
   | true =>
    have hf := az.1 hx a ha hb
    rw [aor h0 h1 ha] at hf
    have := hh a (List.mem_range.2 (of_decide_eq_true hf))
    rwa [hb, a00 h (b6 agl hx)] at this
 · intro hh a ha
   rw [List.mem_range] at ha
   have := hh a (List.mem_range.2 (by omega))
   rwa [← a00 h (b6 agl hx)] at this
theorem aok (h : av n l = 0) : orL (d5 n l) = fm l (aq n) := by
 obtain ⟨h0, h1, _⟩ := cr h
 have hfn := aye h0 h1
 have hfe : asI (aq n) = ((aq n).toNat : Int) := rfl
 unfold fm
 refine adm fun z => ?_
 rw [af8 h, lw, List.mem_filter, kg]
 show z ∈ (a2z (2 ^ n.toNat)).filter (qe n l) ↔ _
 rw [List.mem_filter, acr (by omega)]
 constructor
 · rintro ⟨hz, hk⟩
   have hs : sub z (aq n) := by
    have : z = BitVec.ofNat 32 z.toNat := by rw [BitVec.ofNat_toNat, BitVec.setWidth_eq]
    rw [this]
    exact a8d h0 h1 hz
   exact ⟨hs, by rw [← a5g h hs]; exact hk⟩
 · rintro ⟨hs, hk⟩
   have := a4b hs
   exact ⟨by omega, by rw [a5g h hs]; exact hk⟩
def ve (n : Int) (l : List Fd) (f : Fd) : Bool := decide (clo l f.lhs ≠ aq n) && decide (f.rhs &&& ~~~fm l (aq n) ≠ 0)
def lx (n : Int) (l : List Fd) (i : Nat) : List Fd := ((gt n l).take i).filter (ve n l)
def uw (n : Int) (l : List Fd) : List Fd := (gt n l).filter (ve n l)
theorem sd {i : Nat} (hi : i < (gt n l).length) (h : ve n l ((gt n l).getD i default) = true) : lx n l (i + 1) = lx n l i ++ [(gt n l).getD i default] := by
 unfold lx
 rw [bt hi, List.filter_append]
 simp only [List.filter_cons, h, if_true, List.filter_nil]
theorem sj {i : Nat} (hi : i < (gt n l).length) (h : ve n l ((gt n l).getD i default) = false) : lx n l (i + 1) = lx n l i := by
 unfold lx
 rw [bt hi, List.filter_append]
 simp only [List.filter_cons, h, Bool.false_eq_true, if_false, List.filter_nil, List.append_nil]
theorem alo (n : Int) (l : List Fd) (i : Nat) : (lx n l i).length ≤ i := by
 unfold lx
 exact Nat.le_trans (List.length_filter_le _ _) (by rw [List.length_take]; omega)
theorem amx (n : Int) (l : List Fd) : lx n l (gt n l).length = uw n l := by unfold lx uw; rw [List.take_length]
theorem auf (h : ¬ av n l = 0) : uw n l = [] := by unfold uw; rw [akc h]; rfl
theorem a3t (n : Int) (l : List Fd) : (gt n l).length ≤ 2048 := by
 unfold gt
 split
 · rename_i h
   have h1 := (cr h).2.2.1
   have h2 := a4r l
   have h3 : (jq l).length ≤ (u5 l).length := by
    have : ∀ (f : Nat) (k : List Fd) (i : Nat), (gw f k i).length ≤ k.length := by
     intro f
     induction f with
     | zero => intro k i; exact Nat.le_refl _
     | succ f ih =>
      intro k i
      unfold gw
      split
      · rename_i hi
        split
        · exact Nat.le_trans (ih _ _) (by rw [iq hi]; omega)
        · exact ih _ _
      · exact Nat.le_refl _
    exact this _ _ _
   omega
 · simp
theorem s6 {f : Fd} (h : asI (clo l f.lhs) = asI (aq n)) : ve n l f = false := by unfold ve; rw [db.1 h]; simp
theorem sg {f : Fd} (h : ca .andNot .u32 (asI f.rhs) (asI (fm l (aq n))) = 0) : ve n l f = false := by
 have h2 : f.rhs &&& ~~~fm l (aq n) = 0 := fy.1 h
 unfold ve
 rw [h2]
 simp
theorem wl {f : Fd} (h : ¬ asI (clo l f.lhs) = asI (aq n)) (h2 : ¬ ca .andNot .u32 (asI f.rhs) (asI (fm l (aq n))) = 0) : ve n l f = true := by
 unfold ve
 rw [Bool.and_eq_true, decide_eq_true_iff, decide_eq_true_iff]
 exact ⟨fun e => h (congrArg asI e), fun e => h2 (fy.2 e)⟩
end
theorem axe {L : List Fd} : decide ((L.length : Int) = 0) = decide (L = []) := decide_eq_decide.2 ⟨fun h => List.eq_nil_of_length_eq_zero (by omega), fun h => by rw [h]; rfl⟩
theorem ary {b : Bool} {L : List Fd} : (bif b then decide ((L.length : Int) = 0) else false) = (b && decide (L = [])) := by
 rw [axe]
 cases b <;> rfl
end Go.Hx
end
section
namespace Go.Hx
open Go.Proofs
set_option maxRecDepth 100000
theorem aln : goodFn Tryz.prog 77 := ⟨Tryz.f77, Tryz.func77, by kernel_rfl, by kernel_rfl⟩
theorem ame (n : Int) (l : List Fd) : ah Tryz.prog 77 [pI n, pP (fdl l)] (ap [pP (fdl (uw n l)), pI (av n l)]) := by
 refine ag (nt := 56) af Tryz.func77 rfl rfl l9 ?_; refine sx7 ?_; (iterate 2 refine qy ?_); refine a6 ?_; refine sx7 ?_; (iterate 2 refine qy ?_)
 refine rc rfl rfl rfl rfl rfl rfl aut (av7 n l) (CoL.refl _) rfl rfl ?_; (iterate 5 refine qy ?_); refine a6 ?_; refine a7 ?_; refine sx7 ?_; (iterate 2 refine qy ?_); refine a6 ?_
 refine a8 _ rfl (fun r0 => ?_) (fun r0 => ?_)
 ·
  have h0 := r0
  have h0 := of_decide_eq_false (ax h0)
  try simp only [ty] at h0
  refine sx7 ?_; (iterate 3 refine qy ?_); refine a6 ?_
  exact hx8 rfl rfl rfl (⟨CoC.one (ayi (auf h0)), CoC.refl _, trivial⟩)
 ·
  have h0 := r0
  have h0 := of_decide_eq_true (aw h0)
  try simp only [ty] at h0
  refine aa ?_; refine a7 ?_
  have hv := cr h0
  have hpe := aok h0
  have hml := a3t n l
  refine gy ?_; (iterate 2 refine qy ?_); refine rc rfl rfl rfl rfl rfl rfl afc (as3 n l) (CoL.refl _) rfl rfl ?_; (iterate 5 refine qy ?_); refine a6 ?_; refine a7 ?_; refine sx7 ?_; (iterate 2 refine qy ?_)
  refine a6 ?_; refine a8 _ rfl (fun r1 => ?_) (fun r1 => ?_)
  ·
   have h1 := r1
   have h1 := of_decide_eq_false (ax h1)
   try simp only [ty] at h1
   exfalso
   exact h1 h0
  ·
   have h1 := r1
   have h1 := of_decide_eq_true (aw h1)
   try simp only [ty] at h1
   refine aa ?_; refine sx7 ?_; refine qy ?_; refine a6 ?_; refine a7 ?_; refine sx7 ?_; (iterate 3 refine qy ?_); refine a6 ?_; refine ae ?_
   refine dp 9 900 true 2 40 (lf Fd.c []) (by decide) rfl (CoP.sl rfl (.inr rfl) (fun h => h) (fun i j hi _ => absurd hi (Nat.not_lt_zero i))) (.inr rfl) rfl ?_
   refine ai (ι := Nat) ⟨[(0, some _), (1, some _), (6, some _), (30, some _), (31, some _)], []⟩ ⟨⟨c9, c9, c9, c9, c9, trivial⟩, trivial⟩ (fun i => ⟨[(9, some (.v (.one (.ref 900 (lx n l i).length)))), (32, some (vI i))], [(900, some (.arr true 2 40 (lx n l i).length (lf Fd.c (lx n l i))))]⟩) (fun i => i ≤ (gt n l).length) (fun i => (gt n l).length - i) (0) (Nat.zero_le _) ⟨⟨zy, zy, trivial⟩, ⟨u9, trivial⟩⟩ ?_
   rintro i hi
   have hlen := alo n l i
   refine sx7 ?_; refine qy ?_; refine a6 ?_; refine a7 ?_; refine a8 _ rfl (fun r2 => ?_) (fun r2 => ?_)
   ·
    have h2 := of_decide_eq_true r2
    try simp only [ty] at h2
    refine aa ?_; refine a7 ?_; refine ae ?_; refine sx7 ?_; (iterate 2 refine qy ?_); refine m9 0 ?_; refine s9 ?_; refine a6 ?_; refine sx7 ?_; (iterate 3 refine qy ?_)
    refine rc rfl rfl rfl rfl rfl rfl mb (ot l ((gt n l).getD i default).lhs) (CoL.refl _) rfl rfl ?_; refine qy ?_; refine rc rfl rfl rfl rfl rfl rfl amg (aj8 n hv.1 hv.2.1) (CoL.refl _) rfl rfl ?_
    (iterate 2 refine qy ?_); refine bc rfl rfl (fun r3 => ?_) (fun r3 => ?_)
    ·
     have h3 := r3
     have h3 := of_decide_eq_false (ax h3)
     try simp only [ty] at h3
     (iterate 5 refine qy ?_ (hg := (gtt r3))); refine qy ?_; refine a6 ?_; refine a8 _ rfl (fun r4 => ?_) (fun r4 => ?_)
     ·
      have h4 := r4
      have h4 := cj r3 h4
      have h4 := of_decide_eq_false (ax h4)
      try simp only [ty] at h4
      refine gy ?_; (iterate 2 refine qy ?_); refine m9 1 ?_; refine ra 2 true rfl rfl rfl rfl rfl rfl ?_; refine qy ?_; refine a6 ?_; refine gy ?_; (iterate 2 refine qy ?_); refine a6 ?_
      first | (refine ⟨i + 1, ?_, ?_, ?_⟩
               · show i + 1 ≤ _; omega
               · first | omega | (dsimp only; omega)
               · exact ⟨⟨⟨_, rfl, (dc (sd (by omega) (wl h3 (by rw [← hpe]; exact h4))))⟩, zy, c9, c9, c9, c9, c9, trivial⟩, ⟨⟨_, rfl, (j3 (sd (by omega) (wl h3 (by rw [← hpe]; exact h4))) (CoP.refl _) (CoP.refl _))⟩, trivial⟩⟩)
            | (refine ⟨i + 1, ?_, ?_, ?_⟩
               · show i + 1 ≤ _; omega
               · first | omega | (dsimp only; omega)
               · exact ⟨⟨⟨_, rfl, (fu (sj (by omega) (by first | exact s6 h3 | exact sg (by rw [← hpe]; exact h4))))⟩, zy, c9, c9, c9, c9, c9, trivial⟩, ⟨⟨_, rfl, (dy (sj (by omega) (by first | exact s6 h3 | exact sg (by rw [← hpe]; exact h4))))⟩, trivial⟩⟩)
     ·
      have h4 := r4
      have h4 := cj r3 h4
      have h4 := of_decide_eq_true (aw h4)
      try simp only [ty] at h4
      refine aa ?_; refine gy ?_; (iterate 2 refine qy ?_); refine a6 ?_
      first | (refine ⟨i + 1, ?_, ?_, ?_⟩
               · show i + 1 ≤ _; omega
               · first | omega | (dsimp only; omega)
               · exact ⟨⟨⟨_, rfl, (dc (sd (by omega) (wl h3 (by rw [← hpe]; exact h4))))⟩, zy, c9, c9, c9, c9, c9, trivial⟩, ⟨⟨_, rfl, (j3 (sd (by omega) (wl h3 (by rw [← hpe]; exact h4))) (CoP.refl _) (CoP.refl _))⟩, trivial⟩⟩)
            | (refine ⟨i + 1, ?_, ?_, ?_⟩
               · show i + 1 ≤ _; omega
               · first | omega | (dsimp only; omega)
               · exact ⟨⟨⟨_, rfl, (fu (sj (by omega) (by first | exact s6 h3 | exact sg (by rw [← hpe]; exact h4))))⟩, zy, c9, c9, c9, c9, c9, trivial⟩, ⟨⟨_, rfl, (dy (sj (by omega) (by first | exact s6 h3 | exact sg (by rw [← hpe]; exact h4))))⟩, trivial⟩⟩)
    ·
     have h3 := r3
     have h3 := of_decide_eq_true (aw h3)
     try simp only [ty] at h3
     (iterate 5 refine k9 (gft r3) ?_); refine rq rfl rfl rfl rfl rfl ?_ (hp := r3); refine a6 ?_; refine a8 _ rfl (fun e => by cases e) (fun _ => ?_); refine aa ?_; refine gy ?_; (iterate 2 refine qy ?_)
     refine a6 ?_
     first | (refine ⟨i + 1, ?_, ?_, ?_⟩
              · show i + 1 ≤ _; omega
              · first | omega | (dsimp only; omega)
              · exact ⟨⟨⟨_, rfl, (dc (sd (by omega) (wl h3 (by rw [← hpe]; exact h4))))⟩, zy, c9, c9, c9, c9, c9, trivial⟩, ⟨⟨_, rfl, (j3 (sd (by omega) (wl h3 (by rw [← hpe]; exact h4))) (CoP.refl _) (CoP.refl _))⟩, trivial⟩⟩)
           | (refine ⟨i + 1, ?_, ?_, ?_⟩
              · show i + 1 ≤ _; omega
              · first | omega | (dsimp only; omega)
              · exact ⟨⟨⟨_, rfl, (fu (sj (by omega) (by first | exact s6 h3 | exact sg (by rw [← hpe]; exact h4))))⟩, zy, c9, c9, c9, c9, c9, trivial⟩, ⟨⟨_, rfl, (dy (sj (by omega) (by first | exact s6 h3 | exact sg (by rw [← hpe]; exact h4))))⟩, trivial⟩⟩)
   ·
    have h2 := of_decide_eq_false r2
    try simp only [ty] at h2
    obtain rfl : i = (gt n l).length := by omega
    refine ak ?_; refine sx7 ?_; (iterate 3 refine qy ?_); refine a6 ?_; refine br 4 rfl rfl rfl ?_
    exact hx8 rfl rfl rfl (⟨CoC.one (CoP.of_eq (by rw [amx]; rfl)), cci (by omega), trivial⟩)
theorem az3 : goodFn Tryz.prog 79 := ⟨Tryz.f79, Tryz.func79, by kernel_rfl, by kernel_rfl⟩
theorem b2w (n : Int) (l : List Fd) : ah Tryz.prog 79 [pI n, pP (fdl l)] (ap [pB (decide (av n l = 0) && decide (uw n l = [])), pI (av n l)]) := by
 refine ag (nt := 22) af Tryz.func79 rfl rfl l9 ?_; refine sx7 ?_; (iterate 2 refine qy ?_); refine a6 ?_; refine sx7 ?_; (iterate 2 refine qy ?_)
 refine rc rfl rfl rfl rfl rfl rfl aln (ame n l) (CoL.refl _) rfl rfl ?_; (iterate 5 refine qy ?_); refine a6 ?_; refine sx7 ?_; (iterate 3 refine qy ?_); refine bc rfl rfl (fun r0 => ?_) (fun r0 => ?_)
 ·
  have h0 := of_decide_eq_true r0
  try simp only [ty] at h0
  (iterate 3 refine qy ?_ (hg := (gtt r0))); (iterate 4 refine qy ?_); refine a6 ?_
  exact hx8 rfl rfl rfl (⟨ccb (by first | exact ary | (rw [decide_eq_false h0]; rfl)), CoC.refl _, trivial⟩)
 ·
  have h0 := of_decide_eq_false r0
  try simp only [ty] at h0
  (iterate 3 refine k9 (gft r0) ?_); refine rq rfl rfl rfl rfl rfl ?_ (hp := r0); (iterate 3 refine qy ?_); refine a6 ?_
  exact hx8 rfl rfl rfl (⟨ccb (by first | exact ary | (rw [decide_eq_false h0]; rfl)), CoC.refl _, trivial⟩)
end Go.Hx
end
section
namespace Go.Hx
def xg (l : List Fd) (pr k : AS) : Bool := (List.range 32).all fun a => !k.getLsbD a || decide (sub (clo l (noA k a)) pr)
def a6i (n : Int) (l : List Fd) : Bool := (d5 n l).all (xg l (orL (d5 n l)))
def a6q (n : Int) (l : List Fd) : Bool := decide (av n l = 0) && a6i n l
section
variable {l : List Fd} {pr k : AS}
theorem aya {a : Nat} (ha : a < 32) (h : k.getLsbD a = true) (h2 : ¬ sub (clo l (noA k a)) pr) : xg l pr k = false := by
 unfold xg
 rw [List.all_eq_false]
 exact ⟨a, List.mem_range.2 ha, by rw [h, decide_eq_false h2]; decide⟩
theorem aza (h : ∀ a, a < 32 → k.getLsbD a = true → sub (clo l (noA k a)) pr) : xg l pr k = true := by
 unfold xg
 rw [List.all_eq_true]
 intro a ha
 cases hk : k.getLsbD a with
 | false => rfl
 | true => rw [decide_eq_true (h a (List.mem_range.1 ha) hk)]; rfl
def a82 (l : List Fd) (pr k r : AS) : Prop := sub r k ∧ ∀ a, a < 32 → k.getLsbD a = true → r.getLsbD a = true ∨ sub (clo l (noA k a)) pr
theorem aq4 (l : List Fd) (pr k : AS) : a82 l pr k k := ⟨dh k, fun a _ h => .inl h⟩
theorem avh {r : AS} (h : a82 l pr k r) (h0 : r ≠ 0) : en r < 32 ∧ k.getLsbD (en r) = true := by
 obtain ⟨h1, h2, _, _⟩ := me h0
 exact ⟨h1, az.1 h.1 _ h1 h2⟩
theorem ao8 {r : AS} (h : a82 l pr k r) (h0 : r ≠ 0) (hf : sub (clo l (noA k (en r))) pr) : a82 l pr k (r &&& (r - 1)) := by
 obtain ⟨h1, h2, h3, h4⟩ := me h0
 rw [h4]
 refine ⟨b6 d8 h.1, fun a ha hx => ?_⟩
 rcases h.2 a ha hx with h5 | h5
 · by_cases hl : a = en r
   · subst hl; exact .inr hf
   · refine .inl ?_
     have h6 : ((1 : AS) <<< en r).getLsbD a = decide (a = en r) := eg _ a ha
     rw [BitVec.getLsbD_and, BitVec.getLsbD_not, decide_eq_true ha, Bool.true_and, h5, h6, decide_eq_false hl]
     rfl
 · exact .inr h5
theorem atd {r : AS} (h : a82 l pr k r) (h0 : r = 0) : xg l pr k = true := aza fun a ha hx => by
 rcases h.2 a ha hx with h5 | h5
 · subst h0; simp at h5
 · exact h5
def b3o (l : List Fd) (pr k : AS) (s : Nat) : Prop := ∀ j, j < s → sub (BitVec.ofNat 32 j) k → sub (clo l (BitVec.ofNat 32 j)) pr
end
section
variable {n : Int} {l : List Fd}
theorem ayq {i : Nat} (hi : i < (d5 n l).length) (h : xg l (orL (d5 n l)) ((d5 n l).getD i default) = false) : a6i n l = false := by
 unfold a6i
 rw [List.all_eq_false]
 refine ⟨_, acv hi, by rw [h]; decide⟩
theorem ayf (h : ∀ j, j < (d5 n l).length → xg l (orL (d5 n l)) ((d5 n l).getD j default) = true) : a6i n l = true := by
 unfold a6i
 rw [List.all_eq_true]
 intro x hx
 obtain ⟨j, hj, rfl⟩ := List.getElem_of_mem hx
 have := h j hj
 rwa [List.getD_eq_getElem?_getD, List.getElem?_eq_getElem hj] at this
theorem axu (h : ¬ av n l = 0) : a6q n l = false := by unfold a6q; rw [decide_eq_false h]; rfl
theorem ajj (h : av n l = 0) {b : Bool} (hb : a6i n l = b) : a6q n l = b := by unfold a6q; rw [decide_eq_true h, hb]; rfl
theorem alt {q : Nat → Bool} {i : Nat} (h : ∀ j, j < i → q j = true) (h2 : q i = true) : ∀ j, j < i + 1 → q j = true := fun j hj => by
 by_cases e : j = i
 · subst e; exact h2
 · exact h j (by omega)
end
end Go.Hx
end
section
namespace Go.Hx
open Go.Proofs
set_option maxRecDepth 100000
theorem axo : goodFn Tryz.prog 78 := ⟨Tryz.f78, Tryz.func78, by kernel_rfl, by kernel_rfl⟩
theorem apc (n : Int) (l : List Fd) : ah Tryz.prog 78 [pI n, pP (fdl l)] (ap [pB (a6q n l), pI (av n l)]) := by
 refine ag (nt := 58) af Tryz.func78 rfl rfl l9 ?_; refine sx7 ?_; (iterate 2 refine qy ?_); refine a6 ?_; refine sx7 ?_; (iterate 2 refine qy ?_)
 refine rc rfl rfl rfl rfl rfl rfl af4 (arw n l) (CoL.refl _) rfl rfl ?_; (iterate 5 refine qy ?_); refine a6 ?_; refine a7 ?_; refine sx7 ?_; (iterate 2 refine qy ?_); refine a6 ?_
 refine a8 _ rfl (fun r0 => ?_) (fun r0 => ?_)
 ·
  have h0 := r0
  have h0 := of_decide_eq_false (ax h0)
  try simp only [ty] at h0
  refine sx7 ?_; (iterate 3 refine qy ?_); refine a6 ?_
  exact hx8 rfl rfl rfl (⟨ccb (axu h0).symm, CoC.refl _, trivial⟩)
 ·
  have h0 := r0
  have h0 := of_decide_eq_true (aw h0)
  try simp only [ty] at h0
  refine aa ?_; refine a7 ?_
  have hkl := a8c n l
  refine gy ?_; refine qy ?_; refine a6 ?_; refine a7 ?_; refine sx7 ?_; (iterate 3 refine qy ?_); refine a6 ?_; refine ae ?_
  refine ai (ι := Nat) ⟨[(1, some _), (6, some _), (23, some _), (24, some _)], []⟩ ⟨⟨c9, c9, c9, c9, trivial⟩, trivial⟩ (fun i => ⟨[(8, some (vA (orL ((d5 n l).take i)))), (25, some (vI i))], []⟩) (fun i => i ≤ (d5 n l).length) (fun i => (d5 n l).length - i) (0) (Nat.zero_le _) ⟨⟨zy, zy, trivial⟩, trivial⟩ ?_
  rintro i hi
  refine sx7 ?_; refine qy ?_; refine a6 ?_; refine a7 ?_; refine a8 _ rfl (fun r1 => ?_) (fun r1 => ?_)
  ·
   have h1 := of_decide_eq_true r1
   try simp only [ty] at h1
   refine aa ?_; refine a7 ?_; refine ae ?_; refine sx7 ?_; (iterate 3 refine qy ?_); refine a6 ?_; refine gy ?_; (iterate 4 refine qy ?_); refine a6 ?_; refine gy ?_; (iterate 2 refine qy ?_)
   refine a6 ?_; refine ⟨i + 1, ?_, ?_, ?_⟩
   · show i + 1 ≤ _; omega
   · first | omega | (dsimp only; omega)
   · exact ⟨⟨⟨_, rfl, (c8 (by rw [bOr, yf (by omega)]; rfl))⟩, zy, c9, c9, c9, c9, trivial⟩, trivial⟩
  ·
   have h1 := of_decide_eq_false r1
   try simp only [ty] at h1
   obtain rfl : i = (d5 n l).length := by omega
   have htk : (d5 n l).take (d5 n l).length = d5 n l := List.take_length
   refine ak ?_; refine a7 ?_; refine sx7 ?_; (iterate 3 refine qy ?_); refine a6 ?_; refine ae ?_
   refine ai (ι := Nat) ⟨[(1, some _), (33, some _), (34, some _)], []⟩ ⟨⟨c9, c9, c9, trivial⟩, trivial⟩ (fun i => ⟨[(8, some (vA (orL (d5 n l)))), (35, some (vI i))], []⟩) (fun i => i ≤ (d5 n l).length ∧ (∀ j, j < i → xg l (orL (d5 n l)) ((d5 n l).getD j default) = true)) (fun i => (d5 n l).length - i) (0) (⟨Nat.zero_le _, fun j hj => absurd hj (Nat.not_lt_zero _)⟩) ⟨⟨⟨_, rfl, (c8 (by rw [htk]))⟩, zy, trivial⟩, trivial⟩ ?_
   rintro i ⟨hi, hI⟩
   refine sx7 ?_; refine qy ?_; refine a6 ?_; refine a7 ?_; refine a8 _ rfl (fun r2 => ?_) (fun r2 => ?_)
   ·
    have h2 := of_decide_eq_true r2
    try simp only [ty] at h2
    refine aa ?_; refine a7 ?_; refine ae ?_; refine sx7 ?_; (iterate 3 refine qy ?_); refine a6 ?_; refine sx7 ?_; (iterate 2 refine qy ?_); refine a6 ?_; refine ae ?_
    refine ai (ι := AS) ⟨[(1, some _), (8, some _), (12, some _), (33, some _), (34, some _), (35, some _)], []⟩ ⟨⟨c9, c9, c9, c9, c9, c9, trivial⟩, trivial⟩ (fun r => ⟨[(13, some (vA r))], []⟩) (fun r => a82 l (orL (d5 n l)) ((d5 n l).getD i default) r) (fun r => r.toNat) (((d5 n l).getD i default)) (aq4 l (orL (d5 n l)) ((d5 n l).getD i default)) ⟨⟨zy, trivial⟩, trivial⟩ ?_
    rintro r hr
    refine a7 ?_; refine sx7 ?_; (iterate 2 refine qy ?_); refine a6 ?_; refine a8 _ rfl (fun r3 => ?_) (fun r3 => ?_)
    ·
     have h3 := r3
     have h3 := of_decide_eq_false (ax h3)
     try simp only [ty] at h3
     have hne : r ≠ 0 := fun e => h3 (by rw [e]; rfl)
     have hlow := avh hr hne
     refine aa ?_; refine a7 ?_; refine ae ?_; refine sx7 ?_; (iterate 4 refine qy ?_); refine rqw rfl rfl rfl rfl rfl ?_; (iterate 2 refine qy ?_)
     refine rc rfl rfl rfl rfl rfl rfl mb (ot l (noA ((d5 n l).getD i default) (en r))) (⟨CoC.refl _, cci (by rw [art r hne rfl, zp]; rfl), trivial⟩) rfl rfl ?_; (iterate 3 refine qy ?_); refine a6 ?_
     refine a8 _ rfl (fun r4 => ?_) (fun r4 => ?_)
     ·
      have h4 := r4
      have h4 := of_decide_eq_false (ax h4)
      try simp only [ty] at h4
      refine sx7 ?_; (iterate 2 refine qy ?_); refine a6 ?_
      exact hx8 rfl rfl rfl (⟨ccb (ajj h0 (ayq (by omega) (aya hlow.1 hlow.2 (fun e => (by assumption : ¬ _) (fy.2 e))))).symm, cci h0.symm, trivial⟩)
     ·
      have h4 := r4
      have h4 := of_decide_eq_true (aw h4)
      try simp only [ty] at h4
      refine aa ?_; refine gy ?_; (iterate 2 refine qy ?_); refine rq rfl rfl rfl rfl rfl ?_ (hp := (xb hne)); (iterate 2 refine qy ?_); refine a6 ?_; refine ⟨r &&& (r - 1), ?_, ?_, ?_⟩
      · exact ao8 hr hne (fy.1 (by assumption))
      · exact al4 hne
      · exact ⟨⟨⟨_, rfl, (c8 (a3y hne))⟩, c9, c9, c9, c9, c9, c9, trivial⟩, trivial⟩
    ·
     have h3 := r3
     have h3 := of_decide_eq_true (aw h3)
     try simp only [ty] at h3
     have hz : r = 0 := db.1 h3
     refine ak ?_; refine gy ?_; (iterate 2 refine qy ?_); refine a6 ?_; refine ⟨i + 1, ?_, ?_, ?_⟩
     · exact ⟨by show i + 1 ≤ _; omega, alt hI (atd hr hz)⟩
     · first | omega | (dsimp only; omega)
     · exact ⟨⟨zy, zy, c9, c9, c9, trivial⟩, trivial⟩
   ·
    have h2 := of_decide_eq_false r2
    try simp only [ty] at h2
    obtain rfl : i = (d5 n l).length := by omega
    refine ak ?_; refine sx7 ?_; (iterate 2 refine qy ?_); refine a6 ?_
    exact hx8 rfl rfl rfl (⟨ccb (ajj h0 (ayf (fun j hj => hI j (by omega)))).symm, cci h0.symm, trivial⟩)
end Go.Hx
end
section
namespace Go.Hx
def mgR (l : List Fd) (s : AS) : AS := (l.filter fun f => decide (f.lhs = s)).foldl (fun a f => a ||| f.rhs) 0
def mgF (l : List Fd) (s : AS) : Fd := ⟨s, mgR l s⟩
def ow (l : List Fd) : List Fd := (ord (l.map Fd.lhs)).map (mgF l)
theorem b1z {l : List Fd} {s : AS} {i : Nat} (hi : i < l.length) (h : (l.getD i default).lhs = s) : mgR (l.take (i + 1)) s = mgR (l.take i) s ||| (l.getD i default).rhs := by
 unfold mgR
 rw [bt hi, List.filter_append, List.foldl_append]
 simp only [List.filter_cons, h, decide_true, if_true, List.filter_nil, List.foldl_cons, List.foldl_nil]
theorem b1y {l : List Fd} {s : AS} {i : Nat} (hi : i < l.length) (h : ¬ (l.getD i default).lhs = s) : mgR (l.take (i + 1)) s = mgR (l.take i) s := by
 unfold mgR
 rw [bt hi, List.filter_append, List.foldl_append]
 simp only [List.filter_cons, h, decide_false, Bool.false_eq_true, if_false, List.filter_nil, List.foldl_nil]
theorem b2n {l : List Fd} {s : AS} {i : Nat} (hi : i < l.length) (h : asI (l.getD i default).lhs = asI s) : PV.raw (.int .u32 (ca .or .u32 (asI (mgR (l.take i) s)) (asI (l.getD i default).rhs))) = asC (mgR (l.take (i + 1)) s) := by
 rw [bOr, b1z hi (db.1 h)]
 rfl
theorem aop (l : List Fd) : (ow l).length ≤ l.length := by
 unfold ow
 rw [List.length_map]
 exact Nat.le_trans (a14 _) (by rw [List.length_map]; exact Nat.le_refl _)
end Go.Hx
end
section
namespace Go.Hx
open Go.Proofs
def qc (t : AS) (l : List Fd) : Prop := ∀ x ∈ l, sub x.rhs t
theorem ant {t : AS} {i a : Nat} {l : List Fd} (h : qc t l) : qc t (dt i l a) := by
 unfold dt
 split
 · intro x hx
   rcases List.mem_or_eq_of_mem_set hx with hx | rfl
   · exact h x hx
   · by_cases hi : i < l.length
     · exact h (l.getD i default) (by rw [List.getD_eq_getElem?_getD, List.getElem?_eq_getElem hi]; exact List.getElem_mem hi)
     · rw [List.set_eq_of_length_le (by omega)] at hx
       exact h _ hx
 · exact h
theorem a8k {t : AS} {i : Nat} : ∀ (m : List Nat) (l : List Fd), qc t l → qc t (m.foldl (dt i) l)
 | [], _, h => h
 | a :: m, l, h => a8k m _ (ant h)
theorem aaa {t : AS} {l : List Fd} (h : qc t l) : ∀ i, qc t (gi l i)
 | 0 => h
 | i + 1 => by rw [nq]; exact a8k _ _ (aaa h i)
theorem at5 {t : AS} {l : List Fd} (h : qc t l) : qc t (spl l) := by
 intro x hx
 have hx := ir.1 hx
 unfold er at hx
 obtain ⟨ys, hys, hxy⟩ := List.mem_flatten.1 hx
 obtain ⟨f, hf, rfl⟩ := List.mem_map.1 hys
 unfold kx at hxy
 obtain ⟨a, ha, rfl⟩ := List.mem_map.1 hxy
 refine az.2 fun i hi hb => ?_
 have h1 : ((1 : AS) <<< a).getLsbD i = decide (i = a) := eg a i hi
 rw [show (⟨f.lhs, (1 : AS) <<< a⟩ : Fd).rhs.getLsbD i = decide (i = a) from h1, decide_eq_true_iff] at hb
 subst hb
 have hm := (ip.1 ha).2
 rw [BitVec.getLsbD_and, Bool.and_eq_true] at hm
 exact az.1 (h f hf) i hi hm.1
theorem ana {n : Int} {l : List Fd} (h : av n l = 0) : qc (aq n) (jq l) := fun x hx => by
 have h1 := nx _ _ _ hx
 exact aaa (at5 fun f hf => (afo h f hf).2) _ x (ir.1 h1)
theorem abm {t : AS} : ∀ (l : List Fd) (s : AS), sub s t → (∀ f ∈ l, sub f.rhs t) → sub (l.foldl (fun a f => a ||| f.rhs) s) t
 | [], s, h, _ => h
 | f :: l, s, h, hl => abm l _ (qg h (hl f (List.mem_cons_self ..))) fun g hg => hl g (List.mem_cons_of_mem _ hg)
theorem ay0 {t : AS} {l : List Fd} (h1 : oi t l) (h2 : qc t l) : ∀ f ∈ ow l, sub f.lhs t ∧ sub f.rhs t := fun f hf => by
 unfold ow at hf
 obtain ⟨s, hs, rfl⟩ := List.mem_map.1 hf
 obtain ⟨g, hg, rfl⟩ := List.mem_map.1 (lw.1 hs)
 exact ⟨h1 g hg, abm _ _ (sub_zero t) fun x hx => h2 x (List.mem_filter.1 hx).1⟩
def ez (n : Int) (l : List Fd) : List Fd := ow (gt n l)
theorem acu (n : Int) (l : List Fd) : (ez n l).length ≤ 2048 := Nat.le_trans (aop _) (a3t n l)
def pt (f : Fd) : AS := f.lhs ||| f.rhs
section
variable {n : Int} {l : List Fd}
def jv (n : Int) (l : List Fd) (i : Nat) : Bool := ((ez n l).take i).any fun f => eo n l (pt f)
theorem y5 {i : Nat} (hi : i < (ez n l).length) : jv n l (i + 1) = (jv n l i || eo n l (pt ((ez n l).getD i default))) := by
 unfold jv
 rw [bt hi, List.any_append]
 simp
theorem uo (h : av n l = 0) : eo n l (aq n) = true := decide_eq_true ⟨h, dh _, df (sv h (dh _)) j5⟩
theorem ata (h : av n l = 0) : rkE n l (aq n) = 0 := (ahq h (uo h)).2
def pw (n : Int) (l : List Fd) : List AS := (ez n l).map pt
def aim (n : Int) (l : List Fd) : List AS := qz (if jv n l (ez n l).length = true then pw n l else pw n l ++ [rkS n l (aq n)])
def ja (n : Int) (l : List Fd) : List AS := if av n l = 0 then aim n l else []
theorem ayv (h : ¬ av n l = 0) : ja n l = [] := if_neg h
theorem wk (h : av n l = 0) : ja n l = aim n l := if_pos h
theorem apf (n : Int) (l : List Fd) : (pw n l).length ≤ 2048 := by unfold pw; rw [List.length_map]; exact acu n l
theorem a8x (n : Int) (l : List Fd) : ((ez n l).take (ez n l).length).map pt = pw n l := by rw [List.take_length]; rfl
def jx (n : Int) (l : List Fd) : List AS := if jv n l (ez n l).length = true then pw n l else pw n l ++ [rkS n l (aq n)]
theorem w7 (h : jv n l (ez n l).length = true) : jx n l = ((ez n l).take (ez n l).length).map pt := by rw [a8x]; exact if_pos h
theorem a5c (h : jv n l (ez n l).length = false) : jx n l = ((ez n l).take (ez n l).length).map pt ++ [rkS n l (aq n)] := by rw [a8x]; exact if_neg (by rw [h]; decide)
theorem aqu (n : Int) (l : List Fd) : (jx n l).length ≤ 4096 := by
 have := apf n l
 unfold jx
 split
 · omega
 · rw [List.length_append, List.length_singleton]; omega
theorem arq {i : Nat} (hi : i < (ez n l).length) (h : jv n l i = true) : true = jv n l (i + 1) := by rw [y5 hi, h]; rfl
theorem ash {i : Nat} (hi : i < (ez n l).length) (h : jv n l i = false) : eo n l (pt ((ez n l).getD i default)) = jv n l (i + 1) := by rw [y5 hi, h]; rfl
theorem arj {i : Nat} (hi : i < (ez n l).length) : (bif jv n l i then true else eo n l (pt ((ez n l).getD i default))) = jv n l (i + 1) := by rw [y5 hi]; cases jv n l i <;> rfl
end
end Go.Hx
end
