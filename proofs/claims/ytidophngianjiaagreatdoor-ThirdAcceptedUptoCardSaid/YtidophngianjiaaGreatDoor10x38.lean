/- A part of the proof: W5 Ls9 Ls10 W6a W6. -/
import Derived.Test.YtidophngianjiaaGreatDoor10x37
set_option linter.all false
section
namespace Go.Hx
open Go.Proofs
set_option maxRecDepth 100000
set_option maxHeartbeats 1000000
theorem az7 : goodFn Tryz.prog 41 := ⟨Tryz.f41, Tryz.func41, by kernel_rfl, by kernel_rfl⟩
theorem b2u (n : Int) (l : List Fd) (ps : List AS) (hl : l.length ≤ 16777216) : ah Tryz.prog 41 [pI n, pP (fdl l), pP (asl ps)] (ap [pB (pg n l ps), pI (a0e n l ps)]) := by
 refine ag (nt := 67) af Tryz.func41 rfl rfl l9 ?_; refine sx7 ?_; (iterate 2 refine qy ?_); refine a6 ?_; refine a7 ?_; refine sx7 ?_; (iterate 2 refine qy ?_)
 refine rc rfl rfl rfl rfl rfl rfl tj (sx n l) (CoL.refl _) rfl rfl ?_; refine qy ?_; refine a6 ?_; refine sx7 ?_; (iterate 2 refine qy ?_); refine a6 ?_; refine a8 _ rfl (fun r0 => ?_) (fun r0 => ?_)
 ·
  have h0 := r0
  have h0 := of_decide_eq_false (ax h0)
  try simp only [ty] at h0
  refine sx7 ?_; (iterate 3 refine qy ?_); refine a6 ?_; refine am ?_; refine ⟨.inr rfl, ?_⟩
  have he := as7 (ps := ps) (by assumption : ¬ av n l = 0)
  exact f9 rfl rfl (⟨ccb he.2.symm, cci he.1.symm, trivial⟩)
 ·
  have h0 := r0
  have h0 := of_decide_eq_true (aw h0)
  try simp only [ty] at h0
  have hv : av n l = 0 := by assumption
  refine aa ?_; refine a7 ?_; refine sx7 ?_; (iterate 2 refine qy ?_); refine rc rfl rfl rfl rfl rfl rfl aiu (afh n ps) (CoL.refl _) rfl rfl ?_; refine qy ?_; refine a6 ?_; refine sx7 ?_
  (iterate 2 refine qy ?_); refine a6 ?_; refine a8 _ rfl (fun r1 => ?_) (fun r1 => ?_)
  ·
   have h1 := r1
   have h1 := of_decide_eq_false (ax h1)
   try simp only [ty] at h1
   refine sx7 ?_; (iterate 3 refine qy ?_); refine a6 ?_; refine am ?_; refine ⟨.inr rfl, ?_⟩
   have he := b1r hv (by assumption : ¬ lvE n ps = 0)
   exact f9 rfl rfl (⟨ccb he.2.symm, cci he.1.symm, trivial⟩)
  ·
   have h1 := r1
   have h1 := of_decide_eq_true (aw h1)
   try simp only [ty] at h1
   have hlv : lvE n ps = 0 := by assumption
   refine aa ?_; refine sx7 ?_; (iterate 3 refine qy ?_); refine rc rfl rfl rfl rfl rfl rfl ayw (b2o n ps l []) (⟨CoC.refl _, CoC.refl _, CoC.refl _, ark, trivial⟩) rfl rfl ?_; (iterate 5 refine qy ?_)
   refine a6 ?_; refine a7 ?_; refine sx7 ?_; (iterate 2 refine qy ?_); refine a6 ?_; refine a8 _ rfl (fun r2 => ?_) (fun r2 => ?_)
   ·
    have h2 := r2
    have h2 := of_decide_eq_false (ax h2)
    try simp only [ty] at h2
    refine sx7 ?_; (iterate 3 refine qy ?_); refine a6 ?_; refine am ?_; refine ⟨.inr rfl, ?_⟩
    have he := as6 hv (by assumption : ¬ lsC n ps l [] = 0)
    exact f9 rfl rfl (⟨ccb he.2.symm, cci he.1.symm, trivial⟩)
   ·
    have h2 := r2
    have h2 := of_decide_eq_true (aw h2)
    try simp only [ty] at h2
    have hc : lsC n ps l [] = 0 := by assumption
    refine d1 2 rfl fun hnp => ?_
    refine aa ?_; refine dg (ι := Unit) ⟨[(0, some _), (1, some _), (2, some _)], []⟩ ⟨⟨c9, c9, c9, trivial⟩, trivial⟩ (fun _i => ⟨[(10, some (vB (lsB n ps l [] && fv l ps)))], []⟩) (fun _i => True) ?_ ?_
    ·
     refine gy ?_; (iterate 2 refine qy ?_); refine bc rfl rfl (fun r3 => ?_) (fun r3 => ?_)
     ·
      have h3 := r3
      (iterate 2 refine qy ?_ (hg := (gtt r3))); refine rc rfl rfl rfl rfl rfl rfl axy (b2q l ps hl) (CoL.refl _) rfl (gtt r3) ?_; (iterate 2 refine qy ?_); refine a6 ?_; refine ⟨(), ?_, ?_⟩
      · trivial
      · exact ⟨⟨⟨_, rfl, (cob (by simp_all))⟩, c9, c9, c9, trivial⟩, trivial⟩
     ·
      have h3 := r3
      (iterate 3 refine k9 (gft r3) ?_); refine rq rfl rfl rfl rfl rfl ?_ (hp := r3); refine qy ?_; refine a6 ?_; refine ⟨(), ?_, ?_⟩
      · trivial
      · exact ⟨⟨⟨_, rfl, (cob (by simp_all))⟩, c9, c9, c9, trivial⟩, trivial⟩
    · rintro _ _
      refine a7 ?_; refine sx7 ?_; (iterate 3 refine qy ?_); refine a6 ?_; refine ae ?_
      refine ai (ι := Nat) ⟨[(0, some _), (1, some _), (44, some _), (45, some _)], []⟩ ⟨⟨c9, c9, c9, c9, trivial⟩, trivial⟩ (fun i => ⟨[(10, some (vB ((lsB n ps l [] && fv l ps) && (ps.take i).all (ci l)))), (46, some (vI i))], []⟩) (fun i => i ≤ ps.length) (fun i => ps.length - i) (0) (Nat.zero_le _) ⟨⟨⟨_, rfl, (cob (by simp))⟩, zy, trivial⟩, trivial⟩ ?_
      rintro i hi
      refine sx7 ?_; refine qy ?_; refine a6 ?_; refine a7 ?_; refine a8 _ rfl (fun r4 => ?_) (fun r4 => ?_)
      ·
       have h4 := of_decide_eq_true r4
       try simp only [ty] at h4
       refine aa ?_; refine a7 ?_; refine ae ?_; refine sx7 ?_; (iterate 3 refine qy ?_); refine a6 ?_; refine sx7 ?_; (iterate 3 refine qy ?_)
       refine rc rfl rfl rfl rfl rfl rfl ayx (aon hv (ad0 hlv (d7 (l := ps) (i := i) (by omega)))) (CoL.refl _) rfl rfl ?_; (iterate 5 refine qy ?_); refine a6 ?_; refine gy ?_; (iterate 2 refine qy ?_)
       refine bc rfl rfl (fun r5 => ?_) (fun r5 => ?_)
       ·
        have h5 := r5
        refine qy ?_ (hg := (gtt r5)); (iterate 2 refine qy ?_); refine bc rfl rfl (fun r6 => ?_) (fun r6 => ?_)
        ·
         have h6 := r6
         have h6 := cj r5 h6
         (iterate 2 refine qy ?_ (hg := (gtt r6))); (iterate 2 refine qy ?_); refine a6 ?_; refine gy ?_; (iterate 2 refine qy ?_); refine a6 ?_; refine ⟨i + 1, ?_, ?_, ?_⟩
         · show i + 1 ≤ _; omega
         · first | omega | (dsimp only; omega)
         · exact ⟨⟨⟨_, rfl, (cob (by rw [a78 (f := ci l) (by omega), ← Bool.and_assoc]; first | (rw [(by assumption : (((lsB n ps l [] && fv l ps) && (ps.take i).all (ci l))) = true)]; rfl) | (rw [(by assumption : (((lsB n ps l [] && fv l ps) && (ps.take i).all (ci l))) = false)]; rfl) | (cases (((lsB n ps l [] && fv l ps) && (ps.take i).all (ci l))) <;> rfl) | simp_all))⟩, zy, c9, c9, c9, c9, trivial⟩, trivial⟩
        ·
         have h6 := r6
         have h6 := cj r5 h6
         (iterate 2 refine k9 (gft r6) ?_); refine rq rfl rfl rfl rfl rfl ?_ (hp := r6); refine qy ?_; refine a6 ?_; refine gy ?_; (iterate 2 refine qy ?_); refine a6 ?_; refine ⟨i + 1, ?_, ?_, ?_⟩
         · show i + 1 ≤ _; omega
         · first | omega | (dsimp only; omega)
         · exact ⟨⟨⟨_, rfl, (cob (by rw [a78 (f := ci l) (by omega), ← Bool.and_assoc]; first | (rw [(by assumption : (((lsB n ps l [] && fv l ps) && (ps.take i).all (ci l))) = true)]; rfl) | (rw [(by assumption : (((lsB n ps l [] && fv l ps) && (ps.take i).all (ci l))) = false)]; rfl) | (cases (((lsB n ps l [] && fv l ps) && (ps.take i).all (ci l))) <;> rfl) | simp_all))⟩, zy, c9, c9, c9, c9, trivial⟩, trivial⟩
       ·
        have h5 := r5
        refine k9 (gft r5) ?_; refine rq rfl rfl rfl rfl rfl ?_ (hp := r5); refine qy ?_; (iterate 2 refine k9 rfl ?_); (iterate 2 refine qy ?_); refine a6 ?_; refine gy ?_; (iterate 2 refine qy ?_); refine a6 ?_
        refine ⟨i + 1, ?_, ?_, ?_⟩
        · show i + 1 ≤ _; omega
        · first | omega | (dsimp only; omega)
        · exact ⟨⟨⟨_, rfl, (cob (by rw [a78 (f := ci l) (by omega), ← Bool.and_assoc]; first | (rw [(by assumption : (((lsB n ps l [] && fv l ps) && (ps.take i).all (ci l))) = true)]; rfl) | (rw [(by assumption : (((lsB n ps l [] && fv l ps) && (ps.take i).all (ci l))) = false)]; rfl) | (cases (((lsB n ps l [] && fv l ps) && (ps.take i).all (ci l))) <;> rfl) | simp_all))⟩, zy, c9, c9, c9, c9, trivial⟩, trivial⟩
      ·
       have h4 := of_decide_eq_false r4
       try simp only [ty] at h4
       obtain rfl : i = ps.length := by omega
       refine ak ?_; refine sx7 ?_; (iterate 3 refine qy ?_); refine a6 ?_; refine am ?_; refine ⟨.inr rfl, ?_⟩
       have he := agz hv hc
       exact f9 rfl rfl (⟨ccb (by rw [he.2, List.take_length]), cci he.1.symm, trivial⟩)
theorem awp : goodFn Tryz.prog 134 := ⟨Tryz.f134, Tryz.func134, by kernel_rfl, by kernel_rfl⟩
theorem b11 (a b : List Fd) (hb : b.length ≤ 16777216) : ah Tryz.prog 134 [pP (fdl a), pP (fdl b)] (ap [pI (abd a b), pB (a7h a b)]) := by
 refine ag (nt := 21) af Tryz.func134 rfl rfl l9 ?_; refine sx7 ?_; (iterate 2 refine qy ?_); refine a6 ?_; refine a7 ?_; refine sx7 ?_; refine qy ?_; refine a6 ?_; refine ae ?_
 refine ai (ι := Nat) ⟨[(0, some _), (1, some _)], []⟩ ⟨⟨c9, c9, trivial⟩, trivial⟩ (fun i => ⟨[(6, some (vI i))], []⟩) (fun i => i ≤ b.length ∧ ∀ j, j < i → imp a (b.getD j default) = true) (fun i => b.length - i) (0) (⟨Nat.zero_le _, fun j hj => absurd hj (Nat.not_lt_zero j)⟩) ⟨⟨zy, trivial⟩, trivial⟩ ?_
 rintro i ⟨hi, hI⟩
 refine a7 ?_; refine sx7 ?_; (iterate 4 refine qy ?_); refine a6 ?_; refine a8 _ rfl (fun r0 => ?_) (fun r0 => ?_)
 ·
  have h0 := of_decide_eq_true r0
  try simp only [ty] at h0
  refine aa ?_; refine a7 ?_; refine ae ?_; refine sx7 ?_; (iterate 5 refine qy ?_); refine rc rfl rfl rfl rfl rfl rfl awe (b0n a (b.getD i default)) (CoL.refl _) rfl rfl ?_; refine qy ?_; refine a6 ?_
  refine a8 _ rfl (fun r1 => ?_) (fun r1 => ?_)
  ·
   have h1 := r1
   have h1 := ax h1
   refine sx7 ?_; (iterate 3 refine qy ?_); refine a6 ?_; refine am ?_; refine ⟨.inr rfl, ?_⟩
   have hf : imp a (b.getD i default) = false := by simp_all
   exact f9 rfl rfl (⟨cci (azm (by omega) hI hf).symm, ccb (b1e (by omega) hf).symm, trivial⟩)
  ·
   have h1 := r1
   have h1 := aw h1
   refine aa ?_; refine gy ?_; (iterate 3 refine qy ?_); refine a6 ?_; refine ⟨i + 1, ?_, ?_, ?_⟩
   · refine ⟨by omega, fun j hj => ?_⟩
     by_cases e : j = i
     · rw [e]; simp_all
     · exact hI j (by omega)
   · first | omega | (dsimp only; omega)
   · exact ⟨⟨zy, c9, c9, trivial⟩, trivial⟩
 ·
  have h0 := of_decide_eq_false r0
  try simp only [ty] at h0
  obtain rfl : i = b.length := by omega
  refine ak ?_; refine sx7 ?_; (iterate 2 refine qy ?_); refine a6 ?_
  exact hx8 rfl rfl rfl (⟨cci (ayg hI).symm, ccb (b1k hI).symm, trivial⟩)
theorem b07 : goodFn Tryz.prog 85 := ⟨Tryz.f85, Tryz.func85, by kernel_rfl, by kernel_rfl⟩
theorem aou (l : List Fd) (ps : List AS) (hl : l.length ≤ 16777216) (h8 : ps.length ≤ 64) (hb : ∀ q, q ∈ ps → q.toNat < 65536) : ah Tryz.prog 85 [pP (fdl l), pP (asl ps)] (ap [pB (fv l ps)]) := by
 refine ag (nt := 52) af Tryz.func85 rfl rfl l9 ?_; refine sx7 ?_; refine qy ?_; refine a6 ?_; refine sx7 ?_; refine qy ?_; refine a6 ?_; refine a7 ?_; refine sx7 ?_; refine qy ?_; refine a6 ?_
 refine ae ?_; refine dp 5 900 true 2 40 (lf Fd.c []) (by decide) rfl (CoP.sl rfl (.inr rfl) (fun h => h) (fun i j hi _ => absurd hi (Nat.not_lt_zero i))) (.inr rfl) rfl ?_
 refine ai (ι := Nat) ⟨[(0, some _), (1, some _)], []⟩ ⟨⟨c9, c9, trivial⟩, trivial⟩ (fun i => ⟨[(5, some (.v (.one (.ref 900 (iz l ps i).length)))), (6, some (vI i))], [(900, some (.arr true 2 40 (iz l ps i).length (lf Fd.c (iz l ps i))))]⟩) (fun i => i ≤ ps.length) (fun i => ps.length - i) (0) (Nat.zero_le _) ⟨⟨zy, zy, trivial⟩, ⟨u9, trivial⟩⟩ ?_
 rintro i hi
 refine a7 ?_; refine sx7 ?_; (iterate 4 refine qy ?_); refine a6 ?_; refine a8 _ rfl (fun r0 => ?_) (fun r0 => ?_)
 ·
  have h0 := of_decide_eq_true r0
  try simp only [ty] at h0
  have hpb := hb _ (d7 (l := ps) (i := i) (by omega))
  have hsa : asI (ps.getD i default) = ((ps.getD i default).toNat : Int) := rfl
  have hlp := aaw (l := l) hb i (by omega)
  have him : i * 65536 ≤ 4194304 := by omega
  refine aa ?_; refine a7 ?_; refine ae ?_; refine sx7 ?_; refine qy ?_; refine a6 ?_; refine ae ?_
  refine ai (ι := Nat) ⟨[(0, some _), (1, some _), (6, some _)], []⟩ ⟨⟨c9, c9, c9, trivial⟩, trivial⟩ (fun k => ⟨[(5, some (.v (.one (.ref 900 ((iz l ps i) ++ j8 l (ps.getD i default) k).length)))), (7, some (c5 (.raw (.int .u32 (k : Int)))))], [(900, some (.arr true 2 40 ((iz l ps i) ++ j8 l (ps.getD i default) k).length (lf Fd.c ((iz l ps i) ++ j8 l (ps.getD i default) k))))]⟩) (fun k => k ≤ (ps.getD i default).toNat + 1) (fun k => (ps.getD i default).toNat + 1 - k) (0) (Nat.zero_le _) ⟨⟨⟨_, rfl, (u6 (by simp [j8]))⟩, ⟨_, rfl, (CoR.refl _)⟩, trivial⟩, ⟨⟨_, rfl, (dy (by simp [j8]))⟩, trivial⟩⟩ ?_
  rintro k hk
  have hlk := ad9 l (ps.getD i default) k
  have hlen : ((iz l ps i) ++ j8 l (ps.getD i default) k).length ≤ 4194304 + 65537 := by rw [List.length_append]; omega
  refine a7 ?_; refine sx7 ?_; (iterate 6 refine qy ?_); refine a6 ?_; refine a8 _ rfl (fun r1 => ?_) (fun r1 => ?_)
  ·
   have h1 := of_decide_eq_true r1
   try simp only [ty] at h1
   refine aa ?_; refine a7 ?_; refine ae ?_; refine sx7 ?_; (iterate 7 refine qy ?_); refine a6 ?_; refine a8 _ rfl (fun r2 => ?_) (fun r2 => ?_)
   ·
    have h2 := of_decide_eq_true r2
    try simp only [ty] at h2
    have hsk := (sm (i := k) (by omega)).1 (by assumption)
    refine b7 (E := bm) af ar [0, 1, 2, 3, 4, 5, 6, 7, 8, 9, 10, 11, 12, 13] ?_; (iterate 4 refine qy ?_)
    refine rc rfl rfl rfl rfl rfl rfl a1e (a0v l (BitVec.ofNat 32 k)) (⟨CoC.refl _, cci (f5 (by omega)), trivial⟩) rfl rfl ?_; (iterate 6 refine qy ?_); refine m9 0 ?_; refine ra 1 true rfl rfl rfl rfl rfl rfl ?_
    refine qy ?_; refine a6 ?_; refine ⟨by kernel_rfl, ?_⟩; refine gy ?_; (iterate 3 refine qy ?_); refine a6 ?_
    first | (refine ⟨k + 1, ?_, ?_, ?_⟩
             · show k + 1 ≤ _; omega
             · first | omega | (dsimp only; omega)
             · exact ⟨⟨⟨_, rfl, (dc (a5e hsk))⟩, ⟨_, rfl, (c8 (by omega))⟩, c9, c9, c9, trivial⟩, ⟨⟨_, rfl, (j3 (a5e hsk) (CoP.of_eq (congrArg (fun z => PV.raw (.int .u32 z)) (f5 (by omega)))) (CoP.of_eq (congrArg (fun z => PV.raw (.int .u32 z)) (by rw [o8]; rfl))))⟩, trivial⟩⟩)
          | (refine ⟨k + 1, ?_, ?_, ?_⟩
             · show k + 1 ≤ _; omega
             · first | omega | (dsimp only; omega)
             · exact ⟨⟨⟨_, rfl, (fu (a4u hsk))⟩, ⟨_, rfl, (c8 (by omega))⟩, c9, c9, c9, trivial⟩, ⟨⟨_, rfl, (dy (a4u hsk))⟩, trivial⟩⟩)
   ·
    have h2 := of_decide_eq_false r2
    try simp only [ty] at h2
    have hsk : ¬ sub (BitVec.ofNat 32 k) (ps.getD i default) := fun e => absurd ((sm (i := k) (by omega)).2 e) (by assumption)
    refine aa ?_; refine gy ?_; (iterate 3 refine qy ?_); refine a6 ?_
    first | (refine ⟨k + 1, ?_, ?_, ?_⟩
             · show k + 1 ≤ _; omega
             · first | omega | (dsimp only; omega)
             · exact ⟨⟨⟨_, rfl, (dc (a5e hsk))⟩, ⟨_, rfl, (c8 (by omega))⟩, c9, c9, c9, trivial⟩, ⟨⟨_, rfl, (j3 (a5e hsk) (CoP.of_eq (congrArg (fun z => PV.raw (.int .u32 z)) (f5 (by omega)))) (CoP.of_eq (congrArg (fun z => PV.raw (.int .u32 z)) (by rw [o8]; rfl))))⟩, trivial⟩⟩)
          | (refine ⟨k + 1, ?_, ?_, ?_⟩
             · show k + 1 ≤ _; omega
             · first | omega | (dsimp only; omega)
             · exact ⟨⟨⟨_, rfl, (fu (a4u hsk))⟩, ⟨_, rfl, (c8 (by omega))⟩, c9, c9, c9, trivial⟩, ⟨⟨_, rfl, (dy (a4u hsk))⟩, trivial⟩⟩)
  ·
   have h1 := of_decide_eq_false r1
   try simp only [ty] at h1
   obtain rfl : k = (ps.getD i default).toNat + 1 := by omega
   refine ak ?_; refine gy ?_; (iterate 3 refine qy ?_); refine a6 ?_; refine ⟨i + 1, ?_, ?_, ?_⟩
   · show i + 1 ≤ _; omega
   · first | omega | (dsimp only; omega)
   · exact ⟨⟨⟨_, rfl, (by rw [yy (by omega)]; exact CoR.refl _)⟩, zy, c9, c9, trivial⟩, ⟨⟨_, rfl, (by rw [yy (by omega)]; exact CoO.refl _)⟩, trivial⟩⟩
 ·
  have h0 := of_decide_eq_false r0
  try simp only [ty] at h0
  obtain rfl : i = ps.length := by omega
  refine ak ?_; refine a7 ?_; refine br 5 rfl rfl rfl ?_; refine gy ?_; (iterate 2 refine qy ?_); refine rc rfl rfl rfl rfl rfl rfl awp (b11 (iz l ps ps.length) l hl) (CoL.refl _) rfl rfl ?_
  (iterate 5 refine qy ?_); refine a6 ?_; refine sx7 ?_; (iterate 3 refine qy ?_); refine a6 ?_
  exact hx8 rfl rfl rfl (⟨ccb av4, trivial⟩)
theorem b0i : goodFn Tryz.prog 42 := ⟨Tryz.f42, Tryz.func42, by kernel_rfl, by kernel_rfl⟩
theorem az1 (n : Int) (l : List Fd) (ps : List AS) (hl : l.length ≤ 16777216) : ah Tryz.prog 42 [pI n, pP (fdl l), pP (asl ps)] (ap [pB (pg n l ps), pI (a0e n l ps)]) := by
 refine ag (nt := 51) af Tryz.func42 rfl rfl l9 ?_; refine sx7 ?_; (iterate 2 refine qy ?_); refine a6 ?_; refine a7 ?_; refine sx7 ?_; (iterate 2 refine qy ?_)
 refine rc rfl rfl rfl rfl rfl rfl an7 (af0 n l) (CoL.refl _) rfl rfl ?_; refine qy ?_; refine a6 ?_; refine sx7 ?_; (iterate 2 refine qy ?_); refine a6 ?_; refine a8 _ rfl (fun r0 => ?_) (fun r0 => ?_)
 ·
  have h0 := r0
  have h0 := of_decide_eq_false (ax h0)
  try simp only [ty] at h0
  refine sx7 ?_; (iterate 3 refine qy ?_); refine a6 ?_; refine am ?_; refine ⟨.inr rfl, ?_⟩
  have he := as7 (ps := ps) (by assumption : ¬ av n l = 0)
  exact f9 rfl rfl (⟨ccb he.2.symm, cci he.1.symm, trivial⟩)
 ·
  have h0 := r0
  have h0 := of_decide_eq_true (aw h0)
  try simp only [ty] at h0
  have hv : av n l = 0 := by assumption
  refine aa ?_; refine sx7 ?_; (iterate 3 refine qy ?_); refine rc rfl rfl rfl rfl rfl rfl azx (b2p n ps l []) (⟨CoC.refl _, CoC.refl _, CoC.refl _, ark, trivial⟩) rfl rfl ?_; (iterate 5 refine qy ?_); refine a6 ?_
  refine a7 ?_; refine sx7 ?_; (iterate 3 refine qy ?_); refine bc rfl rfl (fun r1 => ?_) (fun r1 => ?_)
  ·
   have h1 := r1
   have h1 := of_decide_eq_false (ax h1)
   try simp only [ty] at h1
   (iterate 2 refine k9 (gtf r1) ?_); refine rq rfl rfl rfl rfl rfl ?_ (hp := r1); refine qy ?_; (iterate 4 refine k9 rfl ?_); refine qy ?_; refine a6 ?_; refine a8 _ rfl (fun _ => ?_) (fun e => by cases e)
   refine sx7 ?_; (iterate 3 refine qy ?_); refine a6 ?_; refine am ?_; refine ⟨.inr rfl, ?_⟩
   have hq : ¬ lsC n ps l [] = 0 ∨ (lsB n ps l [] && fv l ps) = false := by
    by_cases hc : lsC n ps l [] = 0
    · right; simp_all
    · exact .inl hc
   have he := ahd hv hq
   exact f9 rfl rfl (⟨ccb he.2.symm, cci he.1.symm, trivial⟩)
  ·
   have h1 := r1
   have h1 := of_decide_eq_true (aw h1)
   try simp only [ty] at h1
   (iterate 2 refine qy ?_ (hg := (gff r1))); (iterate 2 refine qy ?_); refine bc rfl rfl (fun r2 => ?_) (fun r2 => ?_)
   ·
    have h2 := r2
    have h2 := bn r1 h2
    have h2 := ax h2
    (iterate 4 refine k9 (gtf r2) ?_); refine rq rfl rfl rfl rfl rfl ?_ (hp := r2); refine a6 ?_; refine a8 _ rfl (fun _ => ?_) (fun e => by cases e); refine sx7 ?_; (iterate 3 refine qy ?_); refine a6 ?_
    refine am ?_; refine ⟨.inr rfl, ?_⟩
    have hq : ¬ lsC n ps l [] = 0 ∨ (lsB n ps l [] && fv l ps) = false := by
     by_cases hc : lsC n ps l [] = 0
     · right; simp_all
     · exact .inl hc
    have he := ahd hv hq
    exact f9 rfl rfl (⟨ccb he.2.symm, cci he.1.symm, trivial⟩)
   ·
    have h2 := r2
    have h2 := bn r1 h2
    have h2 := aw h2
    have hc : lsC n ps l [] = 0 := by simp_all
    have hlv := (zh hc).1
    (iterate 2 refine qy ?_ (hg := (gff r2))); refine rc rfl rfl rfl rfl rfl rfl b07 (aou l ps hl (kz hlv).2.2.1 (fun q hq => as8 hlv hq)) (CoL.refl _) rfl (gff r2) ?_; refine qy ?_ (hg := (gff r2)); refine qy ?_
    refine a6 ?_; refine a8 _ rfl (fun r3 => ?_) (fun r3 => ?_)
    ·
     have h3 := r3
     have h3 := bn r2 h3
     have h3 := ax h3
     refine sx7 ?_; (iterate 3 refine qy ?_); refine a6 ?_; refine am ?_; refine ⟨.inr rfl, ?_⟩
     have hq : ¬ lsC n ps l [] = 0 ∨ (lsB n ps l [] && fv l ps) = false := by
      by_cases hc : lsC n ps l [] = 0
      · right; simp_all
      · exact .inl hc
     have he := ahd hv hq
     exact f9 rfl rfl (⟨ccb he.2.symm, cci he.1.symm, trivial⟩)
    ·
     have h3 := r3
     have h3 := bn r2 h3
     have h3 := aw h3
     have hbb : lsB n ps l [] = true := by simp_all
     have hpp : fv l ps = true := by simp_all
     have he := agz hv hc
     refine d1 2 rfl fun hnp => ?_
     refine aa ?_; refine a7 ?_; refine sx7 ?_; refine qy ?_; refine a6 ?_; refine ae ?_
     refine ai (ι := Nat) ⟨[(1, some _), (2, some _)], []⟩ ⟨⟨c9, c9, trivial⟩, trivial⟩ (fun i => ⟨[(11, some (vI i))], []⟩) (fun i => i ≤ ps.length ∧ ∀ j, j < i → ci l (ps.getD j default) = true) (fun i => ps.length - i) (0) (⟨Nat.zero_le _, fun j hj => absurd hj (Nat.not_lt_zero j)⟩) ⟨⟨zy, trivial⟩, trivial⟩ ?_
     rintro i ⟨hi, hI⟩
     refine a7 ?_; refine sx7 ?_; (iterate 4 refine qy ?_); refine a6 ?_; refine a8 _ rfl (fun r4 => ?_) (fun r4 => ?_)
     ·
      have h4 := of_decide_eq_true r4
      try simp only [ty] at h4
      refine aa ?_; refine a7 ?_; refine ae ?_; refine sx7 ?_; (iterate 5 refine qy ?_)
      refine rc rfl rfl rfl rfl rfl rfl b0c (ajf l (ps.getD i default) (as8 hlv (d7 (by omega)))) (CoL.refl _) rfl rfl ?_; refine qy ?_; refine a6 ?_; refine a8 _ rfl (fun r5 => ?_) (fun r5 => ?_)
      ·
       have h5 := r5
       have h5 := ax h5
       refine sx7 ?_; (iterate 2 refine qy ?_); refine a6 ?_; refine am ?_; refine ⟨.inr rfl, ?_⟩
       have hf := az4 (f := ci l) (i := i) (ps := ps) (by omega) (by simp_all)
       exact f9 rfl rfl (⟨ccb (by rw [he.2, hf, Bool.and_false]), cci he.1.symm, trivial⟩)
      ·
       have h5 := r5
       have h5 := aw h5
       refine aa ?_; refine gy ?_; (iterate 3 refine qy ?_); refine a6 ?_; refine ⟨i + 1, ?_, ?_, ?_⟩
       · refine ⟨by omega, fun j hj => ?_⟩
         by_cases e : j = i
         · rw [e]; simp_all
         · exact hI j (by omega)
       · first | omega | (dsimp only; omega)
       · exact ⟨⟨zy, c9, c9, trivial⟩, trivial⟩
     ·
      have h4 := of_decide_eq_false r4
      try simp only [ty] at h4
      obtain rfl : i = ps.length := by omega
      refine ak ?_; refine sx7 ?_; (iterate 2 refine qy ?_); refine a6 ?_; refine am ?_; refine ⟨.inr rfl, ?_⟩
      have hf := avm (f := ci l) (ps := ps) hI
      exact f9 rfl rfl (⟨ccb (by rw [he.2, hf, hbb, hpp]; rfl), cci he.1.symm, trivial⟩)
end Go.Hx
end
section
namespace Go.Hx
theorem aqr {l k : List Fd} (h : ∀ f ∈ l, f ∈ k) {f : Fd} (hi : imp l f = true) : imp k f = true :=
 decide_eq_true (b6 (of_decide_eq_true hi) (gu (fun g hg => ey g (h g hg)) j5))
theorem a84 : ∀ (f : Nat) (l : List Fd) (i : Nat), l.length - i ≤ f → (∀ j, j < i → j < l.length → nc l j = false) → ∀ j, j < (gw f l i).length → nc (gw f l i) j = false
 | 0, l, i, hf, h, j, hj => h j (by unfold gw at hj; omega) (by unfold gw at hj; exact hj)
 | f + 1, l, i, hf, h, j, hj => by
  unfold gw at hj ⊢
  split at hj
  · rename_i hi
    rw [if_pos hi]
    split at hj
    · rename_i hr
      rw [if_pos hr]
      have hol := iq hi
      refine a84 f (ck l i) i (by omega) (fun a ha hal => ?_) j hj
      cases hq : nc (ck l i) a with
      | false => rfl
      | true =>
       have hal' : a < l.length := by omega
       have e : (ck l i).getD a default = l.getD a default := by
        unfold ck
        rw [List.getD_eq_getElem?_getD, List.getElem?_append_left (by rw [List.length_take]; omega), List.getElem?_take_of_lt ha, ← List.getD_eq_getElem?_getD]
       have h2 := h a ha hal'
       unfold nc at hq h2
       rw [e] at hq
       rw [aqr (k := ck l a) (fun g hg => ?_) hq] at h2
       · cases h2
       · unfold ck at hg ⊢
         rw [List.mem_append] at hg ⊢
         rcases hg with hg | hg
         · rw [List.take_append_of_le_length (by rw [List.length_take]; omega), List.take_take, Nat.min_eq_left (by omega)] at hg
           exact .inl hg
         · refine .inr ?_
           obtain ⟨k, hk, rfl⟩ := List.mem_iff_getElem.1 hg
           rw [List.length_drop] at hk
           rw [List.getElem_drop]
           by_cases hc : a + 1 + k < i
           · rw [List.getElem_append_left (by rw [List.length_take]; omega), List.getElem_take]
             exact List.mem_drop_iff_getElem.2 ⟨k, by omega, by first | rfl | (congr 1; omega) | (congr 1)⟩
           · rw [List.getElem_append_right (by rw [List.length_take]; omega), List.getElem_drop]
             have := List.length_take (i := i) (l := l)
             rw [List.length_append, List.length_drop] at hk
             exact List.mem_drop_iff_getElem.2 ⟨k + 1, by omega, by first | (congr 1; omega) | (congr 1) | rfl⟩
    · rename_i hr
      rw [if_neg hr]
      refine a84 f l (i + 1) (by omega) (fun a ha hal => ?_) j hj
      by_cases e : a = i
      · subst e; simpa using hr
      · exact h a (by omega) hal
  · rename_i hi
    rw [if_neg hi]
    exact h j (by omega) hj
theorem aac (l : List Fd) : ∀ j, j < (jq l).length → nc (jq l) j = false := a84 _ _ 0 (by omega) fun j hj => absurd hj (Nat.not_lt_zero j)
def uz (l0 : List Fd) (x : Fd) (a : Nat) : Prop := x.lhs.getLsbD a = true → imp l0 (y7 x a) = false
theorem ad8 {s t : AS} (h : sub s t) (a : Nat) : sub (s &&& ~~~((1 : AS) <<< a)) (t &&& ~~~((1 : AS) <<< a)) := az.2 fun i hi hb => by
 rw [BitVec.getLsbD_and, Bool.and_eq_true] at hb ⊢
 exact ⟨az.1 h i hi hb.1, hb.2⟩
theorem aj1 {l0 : List Fd} {x y : Fd} {a : Nat} (ha : a < 32) (h : uz l0 x a) (h1 : sub y.lhs x.lhs) (h2 : y.rhs = x.rhs) : uz l0 y a := fun hb => by
 have := h (az.1 h1 a ha hb)
 cases hq : imp l0 (y7 y a) with
 | false => rfl
 | true =>
  have hs : sub y.rhs (clo l0 (y.lhs &&& ~~~((1 : AS) <<< a))) := of_decide_eq_true hq
  have : imp l0 (y7 x a) = true := decide_eq_true (by
   show sub x.rhs (clo l0 (x.lhs &&& ~~~((1 : AS) <<< a)))
   rw [← h2]
   exact b6 hs (jo (ad8 h1 a)))
  simp_all
theorem aw1 {i a : Nat} {l : List Fd} (hi : i < l.length) : sub ((dt i l a).getD i default).lhs (l.getD i default).lhs ∧ ((dt i l a).getD i default).rhs = (l.getD i default).rhs := by
 unfold dt
 split
 · rw [uv hi]; exact ⟨d8, rfl⟩
 · exact ⟨dh _, rfl⟩
theorem a3a {i : Nat} : ∀ (m : List Nat) (l : List Fd), i < l.length → sub ((m.foldl (dt i) l).getD i default).lhs (l.getD i default).lhs ∧ ((m.foldl (dt i) l).getD i default).rhs = (l.getD i default).rhs
 | [], l, _ => ⟨dh _, rfl⟩
 | a :: m, l, hi => by
  have h1 := a3a m (dt i l a) (by rw [yj]; exact hi)
  have h2 := aw1 (a := a) hi
  exact ⟨b6 h1.1 h2.1, h1.2.trans h2.2⟩
theorem ajw {l0 l : List Fd} {i a : Nat} (he : Eqv l0 l) (hi : i < l.length) (ha : a < 32) : uz l0 ((dt i l a).getD i default) a := by
 intro hb
 cases h1 : (l.getD i default).lhs.getLsbD a with
 | false =>
  rw [alg (by rw [ff ha]; exact h1), h1] at hb
  cases hb
 | true =>
  cases h2 : exB l (l.getD i default) a with
  | false =>
   rw [aa6 h2]
   unfold exB imp at h2
   unfold imp y7
   rw [he.clo]
   exact h2
  | true =>
   rw [ac4 (by rw [ff ha]; exact h1) h2, uv hi] at hb
   have hb : ((l.getD i default).lhs &&& ~~~((1 : AS) <<< a)).getLsbD a = true := hb
   rw [BitVec.getLsbD_and, BitVec.getLsbD_not, eg _ _ ha] at hb
   simp at hb
theorem a4x {l0 : List Fd} {i : Nat} : ∀ (m : List Nat) (l : List Fd), Eqv l0 l → i < l.length → (∀ a ∈ m, a < 32) → ∀ a ∈ m, uz l0 ((m.foldl (dt i) l).getD i default) a
 | [], l, _, _, _, a, h => by cases h
 | b :: m, l, he, hi, h32, a, h => by
  have hi' : i < (dt i l b).length := by rw [yj]; exact hi
  rcases List.mem_cons.1 h with rfl | h
  · have hs := a3a m (dt i l a) hi'
    exact aj1 (h32 a List.mem_cons_self) (ajw he hi (h32 a List.mem_cons_self)) hs.1 hs.2
  · exact a4x m _ (he.trans acg) hi' (fun c hc => h32 c (List.mem_cons_of_mem _ hc)) a h
theorem ak1 {l0 l : List Fd} {i : Nat} (he : Eqv l0 l) (hi : i < l.length) : ∀ a, a < 32 → uz l0 ((x4 l i).getD i default) a := fun a ha hb => by
 have hs := a3a (b5 (l.getD i default).lhs) l hi
 have hm : a ∈ b5 (l.getD i default).lhs := ip.2 ⟨ha, az.1 hs.1 a ha hb⟩
 exact a4x _ l he hi (fun c hc => (ip.1 hc).1) a hm hb
theorem a2h {i j : Nat} (hne : j ≠ i) : ∀ (m : List Nat) (l : List Fd), (m.foldl (dt i) l).getD j default = l.getD j default
 | [], l => rfl
 | a :: m, l => by
  rw [List.foldl_cons, a2h hne m]
  unfold dt
  split
  · rw [List.getD_eq_getElem?_getD, List.getElem?_set_ne (by omega), ← List.getD_eq_getElem?_getD]
  · rfl
theorem a8z {l0 l : List Fd} (he : Eqv l0 l) : ∀ i, i ≤ l.length → ∀ j, j < i → ∀ a, a < 32 → uz l0 ((gi l i).getD j default) a
 | 0, _, j, hj, _, _ => absurd hj (Nat.not_lt_zero j)
 | i + 1, hi, j, hj, a, ha => by
  rw [nq]
  by_cases e : j = i
  · subst e
    exact ak1 (he.trans (a3s l j)) (by rw [jm]; omega) a ha
  · unfold x4
    rw [a2h e]
    exact a8z he i (by omega) j (by omega) a ha
theorem a36 {l : List Fd} {f : Fd} (hf : f ∈ jq l) {a : Nat} (ha : a < 32) : uz l f a := by
 have h1 := ir.1 (nx _ _ _ hf)
 obtain ⟨j, hj, rfl⟩ := List.getElem_of_mem h1
 have hj' := hj
 rw [jm] at hj'
 have := a8z (l0 := l) (l := spl l) ((a8n l).trans (a6g fun f => ir.symm)) (spl l).length (Nat.le_refl _) j hj' a ha
 rwa [List.getD_eq_getElem?_getD, List.getElem?_eq_getElem hj, Option.getD_some] at this
def xp (l : List Fd) : Prop := ∀ f ∈ l, ∃ k : Nat, f.rhs = (1 : AS) <<< k
theorem akt (l : List Fd) : xp (er l) := fun g hg => by
 unfold er at hg
 obtain ⟨ys, hys, hxy⟩ := List.mem_flatten.1 hg
 obtain ⟨f, hf, rfl⟩ := List.mem_map.1 hys
 unfold kx at hxy
 obtain ⟨a, ha, rfl⟩ := List.mem_map.1 hxy
 exact ⟨a, rfl⟩
theorem aqj {i a : Nat} {l : List Fd} (h : xp l) : xp (dt i l a) := by
 unfold dt
 split
 · intro x hx
   rcases List.mem_or_eq_of_mem_set hx with hx | rfl
   · exact h x hx
   · by_cases hi : i < l.length
     · exact h (l.getD i default) (by rw [List.getD_eq_getElem?_getD, List.getElem?_eq_getElem hi]; exact List.getElem_mem hi)
     · rw [List.set_eq_of_length_le (by omega)] at hx
       exact h _ hx
 · exact h
theorem a9g {i : Nat} : ∀ (m : List Nat) (l : List Fd), xp l → xp (m.foldl (dt i) l)
 | [], _, h => h
 | a :: m, l, h => a9g m _ (aqj h)
theorem aak {l : List Fd} (h : xp l) : ∀ i, xp (gi l i)
 | 0 => h
 | i + 1 => by rw [nq]; exact a9g _ _ (aak h i)
theorem a7w (l : List Fd) : xp (jq l) := fun f hf =>
 aak (fun g hg => akt l g (ir.1 hg)) _ f (ir.1 (nx _ _ _ hf))
theorem a8r {i : Nat} : ∀ (k : List Fd) (s : AS), (k.foldl (fun a f => a ||| f.rhs) s).getLsbD i = true → s.getLsbD i = true ∨ ∃ f ∈ k, f.rhs.getLsbD i = true
 | [], s, h => .inl h
 | f :: k, s, h => by
  rcases a8r k _ h with h | ⟨g, hg, hb⟩
  · rw [BitVec.getLsbD_or, Bool.or_eq_true] at h
    rcases h with h | h
    · exact .inl h
    · exact .inr ⟨f, List.mem_cons_self, h⟩
  · exact .inr ⟨g, List.mem_cons_of_mem _ hg, hb⟩
theorem acm {k : List Fd} {s : AS} {i : Nat} (h : (mgR k s).getLsbD i = true) : ∃ f ∈ k, f.lhs = s ∧ f.rhs.getLsbD i = true := by
 unfold mgR at h
 rcases a8r _ _ h with h | ⟨f, hf, hb⟩
 · simp at h
 · rw [List.mem_filter, decide_eq_true_eq] at hf
   exact ⟨f, hf.1, hf.2, hb⟩
theorem adb {l : List Fd} {p : AS} (h : ∀ x, sub x p → go l p x = false → ∀ i, i < 32 → (clo l x).getLsbD i = true → p.getLsbD i = true → x.getLsbD i = false → (fm l p).getLsbD i = true) : ci l p = true := by
 unfold ci
 rw [Bool.not_eq_true', List.any_eq_false]
 intro x hx hb
 unfold kp at hb
 rw [Bool.and_eq_true, decide_eq_true_eq, Bool.not_eq_true'] at hb
 refine hb.2 (az.2 fun i hi hbit => ?_ : sub ((clo l x &&& p) &&& ~~~x) (fm l p))
 rw [BitVec.getLsbD_and, BitVec.getLsbD_and, BitVec.getLsbD_not, Bool.and_eq_true, Bool.and_eq_true, Bool.and_eq_true, Bool.not_eq_true'] at hbit
 exact h x (kg.1 hx) hb.1 i hi hbit.1.1 hbit.1.2 hbit.2.2
theorem amy {l : List Fd} {p x : AS} (hx : sub x p) (hk : ou l p x = true) : sub x (fm l p) := az.2 fun i hi hb => by
 unfold fm orL
 rw [sq, Bool.or_eq_true]
 exact .inr (List.any_eq_true.2 ⟨x, List.mem_filter.2 ⟨kg.2 hx, hk⟩, hb⟩)
theorem ai2 {l : List Fd} {j m : Nat} (hm : m < l.length) (hne : m ≠ j) : l[m] ∈ ck l j := by
 unfold ck
 rw [List.mem_append]
 by_cases h2 : m < j
 · exact .inl (List.mem_take_iff_getElem.2 ⟨m, by omega, rfl⟩)
 · exact .inr (List.mem_drop_iff_getElem.2 ⟨m - (j + 1), by omega, by congr 1; omega⟩)
theorem aeg {l M : List Fd} (mc : ∀ s, clo M s = clo l s) (a36 : ∀ {f : Fd}, f ∈ M → ∀ {a : Nat}, a < 32 → uz l f a) (a7w : xp M) (aac : ∀ j, j < M.length → nc M j = false) {X : AS} (hX : ∃ f ∈ M, f.lhs = X) : ci l (X ||| mgR M X) = true := by
 obtain ⟨f0, hf0, rfl⟩ := hX
 have hY : sub (mgR M f0.lhs) (clo l f0.lhs) := az.2 fun i hi hb => by
  obtain ⟨g, hg, he, hgb⟩ := acm hb
  have := ey (l := M) (s := f0.lhs) g hg (by rw [he]; exact j5)
  rw [mc] at this
  exact az.1 this i hi hgb
 have hsup : go l (f0.lhs ||| mgR M f0.lhs) f0.lhs = true := decide_eq_true (qg j5 hY)
 have hmin : pk l (f0.lhs ||| mgR M f0.lhs) f0.lhs = true := akm fun a ha hb => by
  cases hq : go l (f0.lhs ||| mgR M f0.lhs) (noA f0.lhs a) with
  | false => rfl
  | true =>
   have h1 := a36 hf0 ha hb
   have h2 : sub (f0.lhs ||| mgR M f0.lhs) (clo l (noA f0.lhs a)) := of_decide_eq_true hq
   have h4 : sub f0.rhs (mgR M f0.lhs) := a6l hf0 rfl
   have h5 : sub f0.rhs (clo l (noA f0.lhs a)) := b6 (b6 h4 n9) h2
   have h3 : imp l (y7 f0 a) = true := by
    unfold noA at h5
    unfold imp y7
    exact decide_eq_true h5
   rw [h3] at h1
   cases h1
 have hpr := amy nf (a01 hsup hmin)
 refine adb fun x hx hns i hi hc hp hnx => ?_
 rw [BitVec.getLsbD_or, Bool.or_eq_true] at hp
 rcases hp with hp | hp
 · exact az.1 hpr i hi hp
 exfalso
 obtain ⟨f, hf, hfl, hfb⟩ := acm hp
 obtain ⟨j, hj, rfl⟩ := List.getElem_of_mem hf
 have hgd : M.getD j default = M[j] := by rw [List.getD_eq_getElem?_getD, List.getElem?_eq_getElem hj, Option.getD_some]
 obtain ⟨k, hk⟩ := a7w _ hf
 have hnX : ¬ sub f0.lhs (clo l x) := fun e => by
  have : go l (f0.lhs ||| mgR M f0.lhs) x = true := decide_eq_true (b6 (of_decide_eq_true hsup) (by
   have := jo (l := l) e
   rwa [a43] at this))
  rw [this] at hns
  cases hns
 have hot : ∀ g ∈ M, g ≠ M[j] → g ∈ ck M j := fun g hg hne => by
  obtain ⟨m, hm, rfl⟩ := List.getElem_of_mem hg
  exact ai2 hm fun e => hne (by subst e; rfl)
 have hle : ∀ s, sub (clo (ck M j) s) (clo l s) := fun s => by
  rw [← mc]
  exact gu (fun g hg => ey g (vo hg)) j5
 have hcx : sub (clo l x) (clo (ck M j) x) := by
  rw [← mc]
  refine gu (fun g hg hgs => ?_) j5
  by_cases e : g = M[j]
  · subst e
    rw [hfl] at hgs
    exact absurd (b6 hgs (hle x)) hnX
  · exact ey g (hot g hg e) hgs
 have hxX : sub x (clo (ck M j) f0.lhs) := az.2 fun c hc' hcb => by
  have := az.1 hx c hc' hcb
  rw [BitVec.getLsbD_or, Bool.or_eq_true] at this
  rcases this with h | h
  · exact az.1 j5 c hc' h
  · obtain ⟨g, hg, hgl, hgb⟩ := acm h
    have hne : g ≠ M[j] := fun e => by
     subst e
     rw [hk, eg _ _ hc', decide_eq_true_eq] at hgb
     rw [hk, eg _ _ hi, decide_eq_true_eq] at hfb
     rw [hgb, ← hfb, hnx] at hcb
     cases hcb
    exact az.1 (ey g (hot g hg hne) (by rw [hgl]; exact j5)) c hc' hgb
 have hB : (clo (ck M j) f0.lhs).getLsbD i = true := by
  have h1 := az.1 hcx i hi hc
  have h2 := jo (l := ck M j) hxX
  rw [a43] at h2
  exact az.1 h2 i hi h1
 have hr := aac j hj
 unfold nc at hr
 rw [hgd] at hr
 have : imp (ck M j) M[j] = true := decide_eq_true (az.2 fun c hc' hcb => by
  rw [hk, eg _ _ hc', decide_eq_true_eq] at hcb
  rw [hk, eg _ _ hi, decide_eq_true_eq] at hfb
  rw [hfl, hcb, ← hfb]
  exact hB)
 rw [this] at hr
 cases hr
theorem aie {l : List Fd} {X : AS} (hX : ∃ f ∈ jq l, f.lhs = X) : ci l (X ||| mgR (jq l) X) = true :=
 aeg (mc l) (fun hf _ ha => a36 hf ha) (a7w l) (aac l) hX
section
variable {n : Int} {l : List Fd}
theorem ak8 (h : av n l = 0) {s t : AS} (hs : eo n l s = true) (hst : sub s t) (ht : sub t (aq n)) : eo n l t = true := by
 obtain ⟨_, h2, h3⟩ := of_decide_eq_true hs
 exact decide_eq_true ⟨h, ht, df (sv h ht) (by rw [← h3]; exact jo hst)⟩
theorem z8 (s : AS) : ∀ k, sub (fq n l s k) s
 | 0 => dh s
 | k + 1 => by
  rw [lv]
  unfold vv
  split
  · exact b6 d8 (z8 s k)
  · exact z8 s k
theorem rj (s : AS) : ∀ d k, sub (fq n l s (k + d)) (fq n l s k)
 | 0, k => dh _
 | d + 1, k => by
  rw [← Nat.add_assoc, lv]
  unfold vv
  split
  · exact b6 d8 (rj s d k)
  · exact rj s d k
theorem am3 (h : av n l = 0) {a : Nat} (ha : a < n.toNat) (ha2 : a < 32) (hb : (fq n l (aq n) n.toNat).getLsbD a = true) : eo n l (noA (fq n l (aq n) n.toNat) a) = false := by
 cases hq : eo n l (noA (fq n l (aq n) n.toNat) a) with
 | false => rfl
 | true =>
  exfalso
  have e : n.toNat = (n.toNat - 1 - a) + 1 + a := by omega
  have h1 : sub (fq n l (aq n) n.toNat) (fq n l (aq n) (n.toNat - 1 - a + 1)) := by
   have := rj (n := n) (l := l) (aq n) a (n.toNat - 1 - a + 1)
   rwa [← e] at this
  have h2 := az.1 h1 a ha2 hb
  have h3 : sub (fq n l (aq n) n.toNat) (fq n l (aq n) (n.toNat - 1 - a)) := by
   have := rj (n := n) (l := l) (aq n) (a + 1) (n.toNat - 1 - a)
   rwa [show n.toNat - 1 - a + (a + 1) = n.toNat by omega] at this
  rw [lv, show n.toNat - 1 - (n.toNat - 1 - a) = a by omega] at h2
  unfold vv at h2
  have hk : eo n l (noA (fq n l (aq n) (n.toNat - 1 - a)) a) = true := ak8 h hq (ad8 h3 a) (b6 d8 (z8 _ _))
  rw [if_pos hk] at h2
  unfold noA at h2
  rw [BitVec.getLsbD_and, BitVec.getLsbD_not, eg _ _ ha2] at h2
  simp at h2
theorem aiv (h : av n l = 0) : ci l (rkS n l (aq n)) = true := by
 have hr := (ahq h (uo h)).1
 have hk := a6p h
 obtain ⟨_, h2, h3⟩ := of_decide_eq_true hk
 obtain ⟨h0, h1, _, _⟩ := cr h
 refine adb fun x hx hns i hi hc hp hnx => ?_
 exfalso
 have hin : i < n.toNat := by
  have := az.1 h2 i hi hp
  unfold aq at this
  rw [jj _ _ hi, decide_eq_true_eq] at this
  omega
 have hm : eo n l (noA (rkS n l (aq n)) i) = false := by rw [hr] at hp ⊢; exact am3 h hin hi hp
 have hxn : sub x (noA (rkS n l (aq n)) i) := az.2 fun c hc' hcb => by
  unfold noA
  rw [BitVec.getLsbD_and, BitVec.getLsbD_not, eg _ _ hc', az.1 hx c hc' hcb, decide_eq_true hc']
  have : c ≠ i := fun e => by rw [e, hnx] at hcb; cases hcb
  simp [this]
 have hKc : sub (rkS n l (aq n)) (clo l (noA (rkS n l (aq n)) i)) := az.2 fun c hc' hcb => by
  by_cases e : c = i
  · subst e; exact az.1 (jo hxn) c hc' hc
  · refine az.1 j5 c hc' ?_
    unfold noA
    rw [BitVec.getLsbD_and, BitVec.getLsbD_not, eg _ _ hc', hcb, decide_eq_true hc']
    simp [e]
 have hkn : eo n l (noA (rkS n l (aq n)) i) = true := decide_eq_true ⟨h, b6 d8 h2, df (sv h (b6 d8 h2)) (by
  have := jo (l := l) hKc
  rwa [a43, h3] at this)⟩
 rw [hkn] at hm
 cases hm
theorem ai1 (h : av n l = 0) : ∀ x ∈ jx n l, ci l x = true := fun x hx => by
 have hp : ∀ x ∈ pw n l, ci l x = true := fun x hx => by
  unfold pw at hx
  obtain ⟨g, hg, rfl⟩ := List.mem_map.1 hx
  unfold ez ow at hg
  rw [tc h] at hg
  obtain ⟨s, hs, rfl⟩ := List.mem_map.1 hg
  obtain ⟨f, hf, rfl⟩ := List.mem_map.1 (lw.1 hs)
  exact aie ⟨f, hf, rfl⟩
 unfold jx at hx
 split at hx
 · exact hp x hx
 · rw [List.mem_append, List.mem_singleton] at hx
   rcases hx with hx | rfl
   · exact hp x hx
   · exact aiv h
theorem ah9 (h : av n l = 0) : ∀ x ∈ ja n l, ci l x = true := fun x hx => by
 rw [wk h] at hx
 exact ai1 h x (xu.1 (show x ∈ qz (jx n l) from hx)).1
end
end Go.Hx
end
section
namespace Go.Hx
section
variable {n : Int} {l : List Fd}
theorem ax1 (h : av n l = 0) {f : Fd} (hf : f ∈ jq l) : f.lhs ||| mgR (jq l) f.lhs ∈ jx n l := by
 have hm : mgF (gt n l) f.lhs ∈ ez n l := by
  unfold ez ow
  rw [tc h]
  exact List.mem_map.2 ⟨f.lhs, lw.2 (List.mem_map.2 ⟨f, hf, rfl⟩), rfl⟩
 have hp : pt (mgF (gt n l) f.lhs) ∈ pw n l := List.mem_map.2 ⟨_, hm, rfl⟩
 rw [tc h] at hp
 unfold jx
 split
 · exact hp
 · exact List.mem_append.2 (.inl hp)
theorem ali (h : av n l = 0) {f : Fd} (hf : f ∈ jq l) : jw l (ja n l) f = true := by
 obtain ⟨y, hy, hs⟩ := a7o (ax1 h hf)
 have hy' : y ∈ ja n l := by rw [wk h]; exact hy
 have ho := xv l (ja n l) f.lhs y hy'
 have h0 : sub f.rhs (mgR (jq l) f.lhs) := a6l hf rfl
 have h1 : sub f.lhs y := b6 nf hs
 have h2 : sub f.rhs y := b6 (b6 h0 n9) hs
 have h3 : sub f.rhs (clo l f.lhs) := by rw [← mc]; exact ey f hf j5
 have h4 : sub f.rhs (clo l (k6 l (ja n l) f.lhs &&& y)) := b6 h3 (jo (kc wn h1))
 exact decide_eq_true (b6 (kc h4 h2) ho)
theorem agi (h : av n l = 0) : fv l (ja n l) = true := aqa.2 fun f hf => ali h hf
theorem azh (h : av n l = 0) (h6 : n ≤ 6) : lvE n (ja n l) = 0 := by
 obtain ⟨x, hx, _⟩ := aap h
 refine b1m (cr h).1 h6 ?_ (fun q hq => ?_) (List.length_pos_of_mem hx) (by rw [acl h]; exact dh _)
 · rw [wk h]
   exact (alq _).sublist (by unfold aim qz aa2; exact List.filter_sublist)
 · rw [← acl h]
   exact a71 hq
theorem a12 (h : av n l = 0) (h6 : n ≤ 6) : a0e n l (ja n l) = 0 ∧ pg n l (ja n l) = true := by
 obtain ⟨x, hx, hk⟩ := aap h
 obtain ⟨h0, h16, _⟩ := cr h
 have ht := avv (azh h h6) (aqe h)
 have hl : lsB n (ja n l) l [] = true := ht.2.2 (a9p h0 h16 hx (of_decide_eq_true hk).2.2 (agi h))
 have hc := agz h ht.1
 refine ⟨hc.1, ?_⟩
 rw [hc.2, hl, agi h]
 exact List.all_eq_true.2 fun p hp => ah9 h p hp
end
end Go.Hx
end
section
namespace Go.Hx
open Go.Proofs
section
variable {d : Dps}
theorem a1y (h : d.l.length ≤ 6) : d.num ≤ 6 := by
 unfold Dps.num
 omega
theorem ag5 (h : d.l.length ≤ 6) : d.fds.length ≤ 16777216 := by
 have := (cr (wv h)).2.2.1
 omega
theorem b1x (h : d.l.length ≤ 6) : ah Tryz.prog 41 [pI d.num, pP (fdl d.fds), pP (asl (ja d.num d.fds))] (ap [pB true, pI 0]) := by
 have hh := b2u d.num d.fds (ja d.num d.fds) (ag5 h)
 rw [(a12 (wv h) (a1y h)).1, (a12 (wv h) (a1y h)).2] at hh
 exact hh
theorem at6 (h : d.l.length ≤ 6) : ah Tryz.prog 42 [pI d.num, pP (fdl d.fds), pP (asl (ja d.num d.fds))] (ap [pB true, pI 0]) := by
 have hh := az1 d.num d.fds (ja d.num d.fds) (ag5 h)
 rw [(a12 (wv h) (a1y h)).1, (a12 (wv h) (a1y h)).2] at hh
 exact hh
end
end Go.Hx
end
section
namespace Go.Hx
open Go.Proofs
set_option maxRecDepth 100000
theorem az6 (d : Dps) (hl : d.l.length ≤ 16777216) : ah Tryz.prog 10 [d.pc] (ap [pB true]) := by
 refine ag (nt := 61) af Tryz.func10 rfl rfl l9 ?_; refine sx7 ?_; refine m9 0 ?_; refine qy ?_; refine a6 ?_; refine sx7 ?_; refine qy ?_; refine rc rfl rfl rfl rfl rfl rfl azu (cOf d hl) (CoL.refl _) rfl rfl ?_
 (iterate 7 refine qy ?_); refine a6 ?_; refine a7 ?_; refine sx7 ?_; refine rc rfl rfl rfl rfl rfl rfl amn (aev act) (CoL.refl _) rfl rfl ?_; (iterate 5 refine qy ?_); refine a6 ?_
 refine a8 _ rfl (fun r0 => ?_) (fun r0 => ?_)
 ·
  have h0 := r0
  have h0 := ax h0
  refine sx7 ?_; refine rc rfl rfl rfl rfl rfl rfl amn (aev act) (CoL.refl _) rfl rfl ?_; refine qy ?_; refine a6 ?_
  exact hx8 rfl rfl rfl (CoL.refl _)
 ·
  have h0 := r0
  have h0 := aw h0
  have hd : d.l.length ≤ 6 := of_decide_eq_true h0
  refine aa ?_; refine sx7 ?_; (iterate 2 refine qy ?_); refine rc rfl rfl rfl rfl rfl rfl amc (avg act hd) (CoL.refl _) rfl rfl ?_; (iterate 5 refine qy ?_); refine a6 ?_; refine sx7 ?_
  (iterate 3 refine qy ?_); refine rc rfl rfl rfl rfl rfl rfl az7 (b1x hd) (CoL.refl _) rfl rfl ?_; (iterate 5 refine qy ?_); refine a6 ?_; refine sx7 ?_; (iterate 3 refine qy ?_)
  refine rc rfl rfl rfl rfl rfl rfl b0i (at6 hd) (CoL.refl _) rfl rfl ?_; (iterate 5 refine qy ?_); refine a6 ?_; refine sx7 ?_; (iterate 7 refine qy ?_); (iterate 2 refine rq rfl rfl rfl rfl (gtt (bv rfl rfl)) ?_)
  (iterate 2 refine qy ?_); refine rq rfl rfl rfl rfl (gtt (bv (bv rfl rfl) rfl)) ?_; (iterate 2 refine qy ?_); refine bc rfl rfl (fun r1 => ?_) (fun r1 => ?_)
  ·
   have h1 := r1
   have h1 := cj (bv (bv rfl rfl) rfl) h1
   refine qy ?_ (hg := (gtt r1)); (iterate 2 refine qy ?_); refine a6 ?_
   exact hx8 rfl rfl rfl (⟨ccb (by simp_all), trivial⟩)
  ·
   have h1 := r1
   have h1 := cj (bv (bv rfl rfl) rfl) h1
   refine k9 (gft r1) ?_; refine rq rfl rfl rfl rfl rfl ?_ (hp := r1); refine qy ?_; refine a6 ?_
   exact hx8 rfl rfl rfl (⟨ccb (by simp_all), trivial⟩)
end Go.Hx
end
