/- A part of the proof: W5. -/
import Derived.Test.YtidophngianjiaaGreatDoor9x37
set_option linter.all false
section
namespace Go.Hx
open Go.Proofs
set_option maxRecDepth 100000
set_option maxHeartbeats 1000000
theorem a4p : goodFn Tryz.prog 41 := ⟨Tryz.f41, Tryz.func41, by kernel_rfl, by kernel_rfl⟩
theorem afj (n : Int) (l : List Fd) (ps : List AS) (hl : l.length ≤ 16777216) : ah Tryz.prog 41 [pI n, pP (fdl l), pP (asl ps)] (ap [pB (pj n l ps), pI (a1t n l ps)]) := by
 refine ag (nt := 67) af Tryz.func41 rfl rfl l9 ?_; refine sx7 ?_; (iterate 2 refine qy ?_); refine a6 ?_; refine a7 ?_; refine sx7 ?_; (iterate 2 refine qy ?_)
 refine rc rfl rfl rfl rfl rfl rfl so (sh n l) (CoL.refl _) rfl rfl ?_; refine qy ?_; refine a6 ?_; refine sx7 ?_; (iterate 2 refine qy ?_); refine a6 ?_; refine a8 _ rfl (fun r0 => ?_) (fun r0 => ?_)
 ·
  have h0 := r0
  have h0 := of_decide_eq_false (av h0)
  try simp only [ty] at h0
  refine sx7 ?_; (iterate 3 refine qy ?_); refine a6 ?_; refine am ?_; refine ⟨.inr rfl, ?_⟩
  have he := aot (ps := ps) (by assumption : ¬ az n l = 0)
  exact f9 rfl rfl (⟨ccb he.2.symm, cci he.1.symm, trivial⟩)
 ·
  have h0 := r0
  have h0 := of_decide_eq_true (au h0)
  try simp only [ty] at h0
  have hv : az n l = 0 := by assumption
  refine aa ?_; refine a7 ?_; refine sx7 ?_; (iterate 2 refine qy ?_); refine rc rfl rfl rfl rfl rfl rfl ahq (ae6 n ps) (CoL.refl _) rfl rfl ?_; refine qy ?_; refine a6 ?_; refine sx7 ?_
  (iterate 2 refine qy ?_); refine a6 ?_; refine a8 _ rfl (fun r1 => ?_) (fun r1 => ?_)
  ·
   have h1 := r1
   have h1 := of_decide_eq_false (av h1)
   try simp only [ty] at h1
   refine sx7 ?_; (iterate 3 refine qy ?_); refine a6 ?_; refine am ?_; refine ⟨.inr rfl, ?_⟩
   have he := az4 hv (by assumption : ¬ lvE n ps = 0)
   exact f9 rfl rfl (⟨ccb he.2.symm, cci he.1.symm, trivial⟩)
  ·
   have h1 := r1
   have h1 := of_decide_eq_true (au h1)
   try simp only [ty] at h1
   have hlv : lvE n ps = 0 := by assumption
   refine aa ?_; refine sx7 ?_; (iterate 3 refine qy ?_); refine rc rfl rfl rfl rfl rfl rfl awf (azo n ps l []) (⟨CoC.refl _, CoC.refl _, CoC.refl _, apc, trivial⟩) rfl rfl ?_; (iterate 5 refine qy ?_)
   refine a6 ?_; refine a7 ?_; refine sx7 ?_; (iterate 2 refine qy ?_); refine a6 ?_; refine a8 _ rfl (fun r2 => ?_) (fun r2 => ?_)
   ·
    have h2 := r2
    have h2 := of_decide_eq_false (av h2)
    try simp only [ty] at h2
    refine sx7 ?_; (iterate 3 refine qy ?_); refine a6 ?_; refine am ?_; refine ⟨.inr rfl, ?_⟩
    have he := apg hv (by assumption : ¬ lsC n ps l [] = 0)
    exact f9 rfl rfl (⟨ccb he.2.symm, cci he.1.symm, trivial⟩)
   ·
    have h2 := r2
    have h2 := of_decide_eq_true (au h2)
    try simp only [ty] at h2
    have hc : lsC n ps l [] = 0 := by assumption
    refine cj 2 rfl fun hnp => ?_
    refine aa ?_; refine dc (ι := Unit) ⟨[(0, some _), (1, some _), (2, some _)], []⟩ ⟨⟨c9, c9, c9, trivial⟩, trivial⟩ (fun _i => ⟨[(10, some (vB (lsB n ps l [] && fv l ps)))], []⟩) (fun _i => True) ?_ ?_
    ·
     refine gy ?_; (iterate 2 refine qy ?_); refine aw rfl rfl (fun r3 => ?_) (fun r3 => ?_)
     ·
      have h3 := r3
      (iterate 2 refine qy ?_ (hg := (gtt r3))); refine rc rfl rfl rfl rfl rfl rfl axa (azk l ps hl) (CoL.refl _) rfl (gtt r3) ?_; (iterate 2 refine qy ?_); refine a6 ?_; refine ⟨(), ?_, ?_⟩
      · trivial
      · exact ⟨⟨⟨_, rfl, (cob (by simp_all))⟩, c9, c9, c9, trivial⟩, trivial⟩
     ·
      have h3 := r3
      (iterate 3 refine k9 (gft r3) ?_); refine rq rfl rfl rfl rfl rfl ?_ (hp := r3); refine qy ?_; refine a6 ?_; refine ⟨(), ?_, ?_⟩
      · trivial
      · exact ⟨⟨⟨_, rfl, (cob (by simp_all))⟩, c9, c9, c9, trivial⟩, trivial⟩
    · rintro _ _
      refine a7 ?_; refine sx7 ?_; (iterate 3 refine qy ?_); refine a6 ?_; refine ae ?_
      refine ai (ι := Nat) ⟨[(0, some _), (1, some _), (44, some _), (45, some _)], []⟩ ⟨⟨c9, c9, c9, c9, trivial⟩, trivial⟩ (fun i => ⟨[(10, some (vB ((lsB n ps l [] && fv l ps) && (ps.take i).all (db l)))), (46, some (vI i))], []⟩) (fun i => i ≤ ps.length) (fun i => ps.length - i) (0) (Nat.zero_le _) ⟨⟨⟨_, rfl, (cob (by simp))⟩, zy, trivial⟩, trivial⟩ ?_
      rintro i hi
      refine sx7 ?_; refine qy ?_; refine a6 ?_; refine a7 ?_; refine a8 _ rfl (fun r4 => ?_) (fun r4 => ?_)
      ·
       have h4 := of_decide_eq_true r4
       try simp only [ty] at h4
       refine aa ?_; refine a7 ?_; refine ae ?_; refine sx7 ?_; (iterate 3 refine qy ?_); refine a6 ?_; refine sx7 ?_; (iterate 3 refine qy ?_)
       refine rc rfl rfl rfl rfl rfl rfl avq (ams hv (abf hlv (d6 (l := ps) (i := i) (by omega)))) (CoL.refl _) rfl rfl ?_; (iterate 5 refine qy ?_); refine a6 ?_; refine gy ?_; (iterate 2 refine qy ?_)
       refine aw rfl rfl (fun r5 => ?_) (fun r5 => ?_)
       ·
        have h5 := r5
        refine qy ?_ (hg := (gtt r5)); (iterate 2 refine qy ?_); refine aw rfl rfl (fun r6 => ?_) (fun r6 => ?_)
        ·
         have h6 := r6
         have h6 := c6 r5 h6
         (iterate 2 refine qy ?_ (hg := (gtt r6))); (iterate 2 refine qy ?_); refine a6 ?_; refine gy ?_; (iterate 2 refine qy ?_); refine a6 ?_; refine ⟨i + 1, ?_, ?_, ?_⟩
         · show i + 1 ≤ _; omega
         · first | omega | (dsimp only; omega)
         · exact ⟨⟨⟨_, rfl, (cob (by rw [a63 (f := db l) (by omega), ← Bool.and_assoc]; first | (rw [(by assumption : (((lsB n ps l [] && fv l ps) && (ps.take i).all (db l))) = true)]; rfl) | (rw [(by assumption : (((lsB n ps l [] && fv l ps) && (ps.take i).all (db l))) = false)]; rfl) | (cases (((lsB n ps l [] && fv l ps) && (ps.take i).all (db l))) <;> rfl) | simp_all))⟩, zy, c9, c9, c9, c9, trivial⟩, trivial⟩
        ·
         have h6 := r6
         have h6 := c6 r5 h6
         (iterate 2 refine k9 (gft r6) ?_); refine rq rfl rfl rfl rfl rfl ?_ (hp := r6); refine qy ?_; refine a6 ?_; refine gy ?_; (iterate 2 refine qy ?_); refine a6 ?_; refine ⟨i + 1, ?_, ?_, ?_⟩
         · show i + 1 ≤ _; omega
         · first | omega | (dsimp only; omega)
         · exact ⟨⟨⟨_, rfl, (cob (by rw [a63 (f := db l) (by omega), ← Bool.and_assoc]; first | (rw [(by assumption : (((lsB n ps l [] && fv l ps) && (ps.take i).all (db l))) = true)]; rfl) | (rw [(by assumption : (((lsB n ps l [] && fv l ps) && (ps.take i).all (db l))) = false)]; rfl) | (cases (((lsB n ps l [] && fv l ps) && (ps.take i).all (db l))) <;> rfl) | simp_all))⟩, zy, c9, c9, c9, c9, trivial⟩, trivial⟩
       ·
        have h5 := r5
        refine k9 (gft r5) ?_; refine rq rfl rfl rfl rfl rfl ?_ (hp := r5); refine qy ?_; (iterate 2 refine k9 rfl ?_); (iterate 2 refine qy ?_); refine a6 ?_; refine gy ?_; (iterate 2 refine qy ?_); refine a6 ?_
        refine ⟨i + 1, ?_, ?_, ?_⟩
        · show i + 1 ≤ _; omega
        · first | omega | (dsimp only; omega)
        · exact ⟨⟨⟨_, rfl, (cob (by rw [a63 (f := db l) (by omega), ← Bool.and_assoc]; first | (rw [(by assumption : (((lsB n ps l [] && fv l ps) && (ps.take i).all (db l))) = true)]; rfl) | (rw [(by assumption : (((lsB n ps l [] && fv l ps) && (ps.take i).all (db l))) = false)]; rfl) | (cases (((lsB n ps l [] && fv l ps) && (ps.take i).all (db l))) <;> rfl) | simp_all))⟩, zy, c9, c9, c9, c9, trivial⟩, trivial⟩
      ·
       have h4 := of_decide_eq_false r4
       try simp only [ty] at h4
       obtain rfl : i = ps.length := by omega
       refine ak ?_; refine sx7 ?_; (iterate 3 refine qy ?_); refine a6 ?_; refine am ?_; refine ⟨.inr rfl, ?_⟩
       have he := api hv hc
       exact f9 rfl rfl (⟨ccb (by rw [he.2, List.take_length]), cci he.1.symm, trivial⟩)
theorem ate : goodFn Tryz.prog 134 := ⟨Tryz.f134, Tryz.func134, by kernel_rfl, by kernel_rfl⟩
theorem ayf (a b : List Fd) (hb : b.length ≤ 16777216) : ah Tryz.prog 134 [pP (fdl a), pP (fdl b)] (ap [pI (abc a b), pB (a64 a b)]) := by
 refine ag (nt := 21) af Tryz.func134 rfl rfl l9 ?_; refine sx7 ?_; (iterate 2 refine qy ?_); refine a6 ?_; refine a7 ?_; refine sx7 ?_; refine qy ?_; refine a6 ?_; refine ae ?_
 refine ai (ι := Nat) ⟨[(0, some _), (1, some _)], []⟩ ⟨⟨c9, c9, trivial⟩, trivial⟩ (fun i => ⟨[(6, some (vI i))], []⟩) (fun i => i ≤ b.length ∧ ∀ j, j < i → imp a (b.getD j default) = true) (fun i => b.length - i) (0) (⟨Nat.zero_le _, fun j hj => absurd hj (Nat.not_lt_zero j)⟩) ⟨⟨zy, trivial⟩, trivial⟩ ?_
 rintro i ⟨hi, hI⟩
 refine a7 ?_; refine sx7 ?_; (iterate 4 refine qy ?_); refine a6 ?_; refine a8 _ rfl (fun r0 => ?_) (fun r0 => ?_)
 ·
  have h0 := of_decide_eq_true r0
  try simp only [ty] at h0
  refine aa ?_; refine a7 ?_; refine ae ?_; refine sx7 ?_; (iterate 5 refine qy ?_); refine rc rfl rfl rfl rfl rfl rfl atg (az9 a (b.getD i default)) (CoL.refl _) rfl rfl ?_; refine qy ?_; refine a6 ?_
  refine a8 _ rfl (fun r1 => ?_) (fun r1 => ?_)
  ·
   have h1 := r1
   have h1 := av h1
   refine sx7 ?_; (iterate 3 refine qy ?_); refine a6 ?_; refine am ?_; refine ⟨.inr rfl, ?_⟩
   have hf : imp a (b.getD i default) = false := by simp_all
   exact f9 rfl rfl (⟨cci (avg (by omega) hI hf).symm, ccb (azd (by omega) hf).symm, trivial⟩)
  ·
   have h1 := r1
   have h1 := au h1
   refine aa ?_; refine gy ?_; (iterate 3 refine qy ?_); refine a6 ?_; refine ⟨i + 1, ?_, ?_, ?_⟩
   · refine ⟨by omega, fun j hj => ?_⟩
     by_cases e : j = i
     · rw [e]; simp_all
     · exact hI j (by omega)
   · first | omega | (dsimp only; omega)
   · exact ⟨⟨zy, c9, c9, trivial⟩, trivial⟩
 ·
  have h0 := of_decide_eq_false r0
  try simp only [ty] at h0
  obtain rfl : i = b.length := by omega
  refine ak ?_; refine sx7 ?_; (iterate 2 refine qy ?_); refine a6 ?_
  exact hx8 rfl rfl rfl (⟨cci (axm hI).symm, ccb (axx hI).symm, trivial⟩)
theorem avd : goodFn Tryz.prog 85 := ⟨Tryz.f85, Tryz.func85, by kernel_rfl, by kernel_rfl⟩
theorem al9 (l : List Fd) (ps : List AS) (hl : l.length ≤ 16777216) (h8 : ps.length ≤ 64) (hb : ∀ q, q ∈ ps → q.toNat < 65536) : ah Tryz.prog 85 [pP (fdl l), pP (asl ps)] (ap [pB (fv l ps)]) := by
 refine ag (nt := 52) af Tryz.func85 rfl rfl l9 ?_; refine sx7 ?_; refine qy ?_; refine a6 ?_; refine sx7 ?_; refine qy ?_; refine a6 ?_; refine a7 ?_; refine sx7 ?_; refine qy ?_; refine a6 ?_
 refine ae ?_; refine dm 5 900 true 2 40 (lf Fd.c []) (by decide) rfl (CoP.sl rfl (.inr rfl) (fun h => h) (fun i j hi _ => absurd hi (Nat.not_lt_zero i))) (.inr rfl) rfl ?_
 refine ai (ι := Nat) ⟨[(0, some _), (1, some _)], []⟩ ⟨⟨c9, c9, trivial⟩, trivial⟩ (fun i => ⟨[(5, some (.v (.one (.ref 900 (ic l ps i).length)))), (6, some (vI i))], [(900, some (.arr true 2 40 (ic l ps i).length (lf Fd.c (ic l ps i))))]⟩) (fun i => i ≤ ps.length) (fun i => ps.length - i) (0) (Nat.zero_le _) ⟨⟨zy, zy, trivial⟩, ⟨u9, trivial⟩⟩ ?_
 rintro i hi
 refine a7 ?_; refine sx7 ?_; (iterate 4 refine qy ?_); refine a6 ?_; refine a8 _ rfl (fun r0 => ?_) (fun r0 => ?_)
 ·
  have h0 := of_decide_eq_true r0
  try simp only [ty] at h0
  have hpb := hb _ (d6 (l := ps) (i := i) (by omega))
  have hsa : asI (ps.getD i default) = ((ps.getD i default).toNat : Int) := rfl
  have hlp := aau (l := l) hb i (by omega)
  have him : i * 65536 ≤ 4194304 := by omega
  refine aa ?_; refine a7 ?_; refine ae ?_; refine sx7 ?_; refine qy ?_; refine a6 ?_; refine ae ?_
  refine ai (ι := Nat) ⟨[(0, some _), (1, some _), (6, some _)], []⟩ ⟨⟨c9, c9, c9, trivial⟩, trivial⟩ (fun k => ⟨[(5, some (.v (.one (.ref 900 ((ic l ps i) ++ ip l (ps.getD i default) k).length)))), (7, some (bu (.raw (.int .u32 (k : Int)))))], [(900, some (.arr true 2 40 ((ic l ps i) ++ ip l (ps.getD i default) k).length (lf Fd.c ((ic l ps i) ++ ip l (ps.getD i default) k))))]⟩) (fun k => k ≤ (ps.getD i default).toNat + 1) (fun k => (ps.getD i default).toNat + 1 - k) (0) (Nat.zero_le _) ⟨⟨⟨_, rfl, (sq (by simp [ip]))⟩, ⟨_, rfl, (CoR.refl _)⟩, trivial⟩, ⟨⟨_, rfl, (dp (by simp [ip]))⟩, trivial⟩⟩ ?_
  rintro k hk
  have hlk := abh l (ps.getD i default) k
  have hlen : ((ic l ps i) ++ ip l (ps.getD i default) k).length ≤ 4194304 + 65537 := by rw [List.length_append]; omega
  refine a7 ?_; refine sx7 ?_; (iterate 6 refine qy ?_); refine a6 ?_; refine a8 _ rfl (fun r1 => ?_) (fun r1 => ?_)
  ·
   have h1 := of_decide_eq_true r1
   try simp only [ty] at h1
   refine aa ?_; refine a7 ?_; refine ae ?_; refine sx7 ?_; (iterate 7 refine qy ?_); refine a6 ?_; refine a8 _ rfl (fun r2 => ?_) (fun r2 => ?_)
   ·
    have h2 := of_decide_eq_true r2
    try simp only [ty] at h2
    have hsk := (rg (i := k) (by omega)).1 (by assumption)
    refine b5 (E := bm) af aq [0, 1, 2, 3, 4, 5, 6, 7, 8, 9, 10, 11, 12, 13] ?_; (iterate 4 refine qy ?_)
    refine rc rfl rfl rfl rfl rfl rfl a01 (zz l (BitVec.ofNat 32 k)) (⟨CoC.refl _, cci (eq (by omega)), trivial⟩) rfl rfl ?_; (iterate 6 refine qy ?_); refine m9 0 ?_; refine ra 1 true rfl rfl rfl rfl rfl rfl ?_
    refine qy ?_; refine a6 ?_; refine ⟨by kernel_rfl, ?_⟩; refine gy ?_; (iterate 3 refine qy ?_); refine a6 ?_
    first | (refine ⟨k + 1, ?_, ?_, ?_⟩
             · show k + 1 ≤ _; omega
             · first | omega | (dsimp only; omega)
             · exact ⟨⟨⟨_, rfl, (df (a4i hsk))⟩, ⟨_, rfl, (c5 (by omega))⟩, c9, c9, c9, trivial⟩, ⟨⟨_, rfl, (jb (a4i hsk) (CoP.of_eq (congrArg (fun z => PV.raw (.int .u32 z)) (eq (by omega)))) (CoP.of_eq (congrArg (fun z => PV.raw (.int .u32 z)) (by rw [o5]; rfl))))⟩, trivial⟩⟩)
          | (refine ⟨k + 1, ?_, ?_, ?_⟩
             · show k + 1 ≤ _; omega
             · first | omega | (dsimp only; omega)
             · exact ⟨⟨⟨_, rfl, (f8 (a4a hsk))⟩, ⟨_, rfl, (c5 (by omega))⟩, c9, c9, c9, trivial⟩, ⟨⟨_, rfl, (dp (a4a hsk))⟩, trivial⟩⟩)
   ·
    have h2 := of_decide_eq_false r2
    try simp only [ty] at h2
    have hsk : ¬ sub (BitVec.ofNat 32 k) (ps.getD i default) := fun e => absurd ((rg (i := k) (by omega)).2 e) (by assumption)
    refine aa ?_; refine gy ?_; (iterate 3 refine qy ?_); refine a6 ?_
    first | (refine ⟨k + 1, ?_, ?_, ?_⟩
             · show k + 1 ≤ _; omega
             · first | omega | (dsimp only; omega)
             · exact ⟨⟨⟨_, rfl, (df (a4i hsk))⟩, ⟨_, rfl, (c5 (by omega))⟩, c9, c9, c9, trivial⟩, ⟨⟨_, rfl, (jb (a4i hsk) (CoP.of_eq (congrArg (fun z => PV.raw (.int .u32 z)) (eq (by omega)))) (CoP.of_eq (congrArg (fun z => PV.raw (.int .u32 z)) (by rw [o5]; rfl))))⟩, trivial⟩⟩)
          | (refine ⟨k + 1, ?_, ?_, ?_⟩
             · show k + 1 ≤ _; omega
             · first | omega | (dsimp only; omega)
             · exact ⟨⟨⟨_, rfl, (f8 (a4a hsk))⟩, ⟨_, rfl, (c5 (by omega))⟩, c9, c9, c9, trivial⟩, ⟨⟨_, rfl, (dp (a4a hsk))⟩, trivial⟩⟩)
  ·
   have h1 := of_decide_eq_false r1
   try simp only [ty] at h1
   obtain rfl : k = (ps.getD i default).toNat + 1 := by omega
   refine ak ?_; refine gy ?_; (iterate 3 refine qy ?_); refine a6 ?_; refine ⟨i + 1, ?_, ?_, ?_⟩
   · show i + 1 ≤ _; omega
   · first | omega | (dsimp only; omega)
   · exact ⟨⟨⟨_, rfl, (by rw [zh (by omega)]; exact CoR.refl _)⟩, zy, c9, c9, trivial⟩, ⟨⟨_, rfl, (by rw [zh (by omega)]; exact CoO.refl _)⟩, trivial⟩⟩
 ·
  have h0 := of_decide_eq_false r0
  try simp only [ty] at h0
  obtain rfl : i = ps.length := by omega
  refine ak ?_; refine a7 ?_; refine bq 5 rfl rfl rfl ?_; refine gy ?_; (iterate 2 refine qy ?_); refine rc rfl rfl rfl rfl rfl rfl ate (ayf (ic l ps ps.length) l hl) (CoL.refl _) rfl rfl ?_
  (iterate 5 refine qy ?_); refine a6 ?_; refine sx7 ?_; (iterate 3 refine qy ?_); refine a6 ?_
  exact hx8 rfl rfl rfl (⟨ccb au5, trivial⟩)
theorem a4o : goodFn Tryz.prog 42 := ⟨Tryz.f42, Tryz.func42, by kernel_rfl, by kernel_rfl⟩
theorem a3j (n : Int) (l : List Fd) (ps : List AS) (hl : l.length ≤ 16777216) : ah Tryz.prog 42 [pI n, pP (fdl l), pP (asl ps)] (ap [pB (pj n l ps), pI (a1t n l ps)]) := by
 refine ag (nt := 51) af Tryz.func42 rfl rfl l9 ?_; refine sx7 ?_; (iterate 2 refine qy ?_); refine a6 ?_; refine a7 ?_; refine sx7 ?_; (iterate 2 refine qy ?_)
 refine rc rfl rfl rfl rfl rfl rfl a96 (a6w n l) (CoL.refl _) rfl rfl ?_; refine qy ?_; refine a6 ?_; refine sx7 ?_; (iterate 2 refine qy ?_); refine a6 ?_; refine a8 _ rfl (fun r0 => ?_) (fun r0 => ?_)
 ·
  have h0 := r0
  have h0 := of_decide_eq_false (av h0)
  try simp only [ty] at h0
  refine sx7 ?_; (iterate 3 refine qy ?_); refine a6 ?_; refine am ?_; refine ⟨.inr rfl, ?_⟩
  have he := aot (ps := ps) (by assumption : ¬ az n l = 0)
  exact f9 rfl rfl (⟨ccb he.2.symm, cci he.1.symm, trivial⟩)
 ·
  have h0 := r0
  have h0 := of_decide_eq_true (au h0)
  try simp only [ty] at h0
  have hv : az n l = 0 := by assumption
  refine aa ?_; refine sx7 ?_; (iterate 3 refine qy ?_); refine rc rfl rfl rfl rfl rfl rfl auv (b02 n ps l []) (⟨CoC.refl _, CoC.refl _, CoC.refl _, apc, trivial⟩) rfl rfl ?_; (iterate 5 refine qy ?_); refine a6 ?_
  refine a7 ?_; refine sx7 ?_; (iterate 3 refine qy ?_); refine aw rfl rfl (fun r1 => ?_) (fun r1 => ?_)
  ·
   have h1 := r1
   have h1 := of_decide_eq_false (av h1)
   try simp only [ty] at h1
   (iterate 2 refine k9 (gtf r1) ?_); refine rq rfl rfl rfl rfl rfl ?_ (hp := r1); refine qy ?_; (iterate 4 refine k9 rfl ?_); refine qy ?_; refine a6 ?_; refine a8 _ rfl (fun _ => ?_) (fun e => by cases e)
   refine sx7 ?_; (iterate 3 refine qy ?_); refine a6 ?_; refine am ?_; refine ⟨.inr rfl, ?_⟩
   have hq : ¬ lsC n ps l [] = 0 ∨ (lsB n ps l [] && fv l ps) = false := by
    by_cases hc : lsC n ps l [] = 0
    · right; simp_all
    · exact .inl hc
   have he := afm hv hq
   exact f9 rfl rfl (⟨ccb he.2.symm, cci he.1.symm, trivial⟩)
  ·
   have h1 := r1
   have h1 := of_decide_eq_true (au h1)
   try simp only [ty] at h1
   (iterate 2 refine qy ?_ (hg := (gff r1))); (iterate 2 refine qy ?_); refine aw rfl rfl (fun r2 => ?_) (fun r2 => ?_)
   ·
    have h2 := r2
    have h2 := be r1 h2
    have h2 := av h2
    (iterate 4 refine k9 (gtf r2) ?_); refine rq rfl rfl rfl rfl rfl ?_ (hp := r2); refine a6 ?_; refine a8 _ rfl (fun _ => ?_) (fun e => by cases e); refine sx7 ?_; (iterate 3 refine qy ?_); refine a6 ?_
    refine am ?_; refine ⟨.inr rfl, ?_⟩
    have hq : ¬ lsC n ps l [] = 0 ∨ (lsB n ps l [] && fv l ps) = false := by
     by_cases hc : lsC n ps l [] = 0
     · right; simp_all
     · exact .inl hc
    have he := afm hv hq
    exact f9 rfl rfl (⟨ccb he.2.symm, cci he.1.symm, trivial⟩)
   ·
    have h2 := r2
    have h2 := be r1 h2
    have h2 := au h2
    have hc : lsC n ps l [] = 0 := by simp_all
    have hlv := (zc hc).1
    (iterate 2 refine qy ?_ (hg := (gff r2))); refine rc rfl rfl rfl rfl rfl rfl avd (al9 l ps hl (ku hlv).2.2.1 (fun q hq => apo hlv hq)) (CoL.refl _) rfl (gff r2) ?_; refine qy ?_ (hg := (gff r2)); refine qy ?_
    refine a6 ?_; refine a8 _ rfl (fun r3 => ?_) (fun r3 => ?_)
    ·
     have h3 := r3
     have h3 := be r2 h3
     have h3 := av h3
     refine sx7 ?_; (iterate 3 refine qy ?_); refine a6 ?_; refine am ?_; refine ⟨.inr rfl, ?_⟩
     have hq : ¬ lsC n ps l [] = 0 ∨ (lsB n ps l [] && fv l ps) = false := by
      by_cases hc : lsC n ps l [] = 0
      · right; simp_all
      · exact .inl hc
     have he := afm hv hq
     exact f9 rfl rfl (⟨ccb he.2.symm, cci he.1.symm, trivial⟩)
    ·
     have h3 := r3
     have h3 := be r2 h3
     have h3 := au h3
     have hbb : lsB n ps l [] = true := by simp_all
     have hpp : fv l ps = true := by simp_all
     have he := api hv hc
     refine cj 2 rfl fun hnp => ?_
     refine aa ?_; refine a7 ?_; refine sx7 ?_; refine qy ?_; refine a6 ?_; refine ae ?_
     refine ai (ι := Nat) ⟨[(1, some _), (2, some _)], []⟩ ⟨⟨c9, c9, trivial⟩, trivial⟩ (fun i => ⟨[(11, some (vI i))], []⟩) (fun i => i ≤ ps.length ∧ ∀ j, j < i → db l (ps.getD j default) = true) (fun i => ps.length - i) (0) (⟨Nat.zero_le _, fun j hj => absurd hj (Nat.not_lt_zero j)⟩) ⟨⟨zy, trivial⟩, trivial⟩ ?_
     rintro i ⟨hi, hI⟩
     refine a7 ?_; refine sx7 ?_; (iterate 4 refine qy ?_); refine a6 ?_; refine a8 _ rfl (fun r4 => ?_) (fun r4 => ?_)
     ·
      have h4 := of_decide_eq_true r4
      try simp only [ty] at h4
      refine aa ?_; refine a7 ?_; refine ae ?_; refine sx7 ?_; (iterate 5 refine qy ?_)
      refine rc rfl rfl rfl rfl rfl rfl awx (aht l (ps.getD i default) (apo hlv (d6 (by omega)))) (CoL.refl _) rfl rfl ?_; refine qy ?_; refine a6 ?_; refine a8 _ rfl (fun r5 => ?_) (fun r5 => ?_)
      ·
       have h5 := r5
       have h5 := av h5
       refine sx7 ?_; (iterate 2 refine qy ?_); refine a6 ?_; refine am ?_; refine ⟨.inr rfl, ?_⟩
       have hf := ax5 (f := db l) (i := i) (ps := ps) (by omega) (by simp_all)
       exact f9 rfl rfl (⟨ccb (by rw [he.2, hf, Bool.and_false]), cci he.1.symm, trivial⟩)
      ·
       have h5 := r5
       have h5 := au h5
       refine aa ?_; refine gy ?_; (iterate 3 refine qy ?_); refine a6 ?_; refine ⟨i + 1, ?_, ?_, ?_⟩
       · refine ⟨by omega, fun j hj => ?_⟩
         by_cases e : j = i
         · rw [e]; simp_all
         · exact hI j (by omega)
       · first | omega | (dsimp only; omega)
       · exact ⟨⟨zy, c9, c9, trivial⟩, trivial⟩
     ·
      have h4 := of_decide_eq_false r4
      try simp only [ty] at h4
      obtain rfl : i = ps.length := by omega
      refine ak ?_; refine sx7 ?_; (iterate 2 refine qy ?_); refine a6 ?_; refine am ?_; refine ⟨.inr rfl, ?_⟩
      have hf := arh (f := db l) (ps := ps) hI
      exact f9 rfl rfl (⟨ccb (by rw [he.2, hf, hbb, hpp]; rfl), cci he.1.symm, trivial⟩)
theorem aw0 (n : Int) (l : List Fd) (ps : List AS) (hl : l.length ≤ 16777216) (hp : ps.length ≤ 16777216) : ah Tryz.prog 9 [pI n, pP (fdl l), pP (asl ps)] (ap [pB true]) := by
 refine ag (nt := 65) af Tryz.func9 rfl rfl l9 ?_; refine sx7 ?_; refine qy ?_; refine a6 ?_; refine a7 ?_; refine sx7 ?_; refine rc rfl rfl rfl rfl rfl rfl za (vc zq) (CoL.refl _) rfl rfl ?_
 (iterate 4 refine qy ?_); refine rc rfl rfl rfl rfl rfl rfl axk (b01 n l) (CoL.refl _) rfl rfl ?_; (iterate 3 refine qy ?_); refine aw rfl rfl (fun r0 => ?_) (fun r0 => ?_)
 ·
  have h0 := r0
  have h0 := av h0
  (iterate 4 refine k9 (gtf r0) ?_); (iterate 4 refine k9 rfl ?_); refine k9 (gtf r0) ?_; refine rq rfl rfl rfl rfl rfl ?_ (hp := r0); refine qy ?_; (iterate 8 refine k9 rfl ?_); refine qy ?_; refine a6 ?_
  refine a8 _ rfl (fun _ => ?_) (fun e => by cases e); refine sx7 ?_; refine rc rfl rfl rfl rfl rfl rfl za (vc zq) (CoL.refl _) rfl rfl ?_; refine qy ?_; refine a6 ?_
  exact hx8 rfl rfl rfl (CoL.refl _)
 ·
  have h0 := r0
  have h0 := au h0
  (iterate 4 refine qy ?_ (hg := (gff r0))); refine aw rfl rfl (fun r1 => ?_) (fun r1 => ?_)
  ·
   have h1 := of_decide_eq_true r1
   try simp only [ty] at h1
   (iterate 2 refine qy ?_ (hg := (gtt r1))); refine rc rfl rfl rfl rfl rfl rfl a96 (a6w n l) (CoL.refl _) rfl (gtt r1) ?_; refine qy ?_ (hg := (gtt r1)); refine qy ?_ (hg := (gff r0)); (iterate 2 refine qy ?_)
   refine aw rfl rfl (fun r2 => ?_) (fun r2 => ?_)
   ·
    have h2 := r2
    have h2 := be r0 h2
    have h2 := c6 r1 h2
    have h2 := of_decide_eq_true h2
    try simp only [ty] at h2
    (iterate 4 refine k9 (gtf r2) ?_); (iterate 3 refine k9 rfl ?_); refine k9 (gtf r2) ?_; refine rq rfl rfl rfl rfl rfl ?_ (hp := r2); refine a6 ?_; refine a8 _ rfl (fun _ => ?_) (fun e => by cases e); refine sx7 ?_
    refine rc rfl rfl rfl rfl rfl rfl za (vc zq) (CoL.refl _) rfl rfl ?_; refine qy ?_; refine a6 ?_
    exact hx8 rfl rfl rfl (CoL.refl _)
   ·
    have h2 := r2
    have h2 := be r0 h2
    have h2 := c6 r1 h2
    have h2 := of_decide_eq_false h2
    try simp only [ty] at h2
    (iterate 4 refine qy ?_ (hg := (gff r2))); refine aw rfl rfl (fun r3 => ?_) (fun r3 => ?_)
    ·
     have h3 := of_decide_eq_true r3
     try simp only [ty] at h3
     (iterate 3 refine qy ?_ (hg := (gtt r3))); refine qy ?_ (hg := (gff r2)); refine qy ?_; refine a6 ?_; refine a8 _ rfl (fun r4 => ?_) (fun r4 => ?_)
     ·
      have h4 := r4
      have h4 := be r2 h4
      have h4 := c6 r3 h4
      have h4 := of_decide_eq_true h4
      try simp only [ty] at h4
      refine sx7 ?_; refine rc rfl rfl rfl rfl rfl rfl za (vc zq) (CoL.refl _) rfl rfl ?_; refine qy ?_; refine a6 ?_
      exact hx8 rfl rfl rfl (CoL.refl _)
     ·
      have h4 := r4
      have h4 := be r2 h4
      have h4 := c6 r3 h4
      have h4 := of_decide_eq_false h4
      try simp only [ty] at h4
      refine aa ?_; refine sx7 ?_; (iterate 2 refine qy ?_); refine rc rfl rfl rfl rfl rfl rfl a3f (x5 l.length false (lf Fd.c l) (by omega)) (CoL.refl _) rfl rfl ?_; refine qy ?_
      refine rc rfl rfl rfl rfl rfl rfl va (wq ps.length false (lf sC ps) (by omega)) (CoL.refl _) rfl rfl ?_; refine rc rfl rfl rfl rfl rfl rfl a4p (afj n l ps hl) (CoL.refl _) rfl rfl ?_
      (iterate 5 refine qy ?_); refine a6 ?_; refine sx7 ?_; (iterate 3 refine qy ?_); refine rc rfl rfl rfl rfl rfl rfl a4o (a3j n l ps hl) (CoL.refl _) rfl rfl ?_; (iterate 5 refine qy ?_); refine a6 ?_
      refine sx7 ?_; (iterate 4 refine qy ?_); refine aw rfl rfl (fun r5 => ?_) (fun r5 => ?_)
      ·
       have h5 := r5
       (iterate 3 refine qy ?_ (hg := (gtt r5))); (iterate 2 refine qy ?_); refine a6 ?_
       exact hx8 rfl rfl rfl (⟨ccb (by simp_all), trivial⟩)
      ·
       have h5 := r5
       (iterate 3 refine k9 (gft r5) ?_); refine rq rfl rfl rfl rfl rfl ?_ (hp := r5); refine qy ?_; refine a6 ?_
       exact hx8 rfl rfl rfl (⟨ccb (by simp_all), trivial⟩)
    ·
     have h3 := of_decide_eq_false r3
     try simp only [ty] at h3
     (iterate 3 refine k9 (gft r3) ?_); refine rq rfl rfl rfl rfl (gff r2) ?_ (hp := r3); refine qy ?_; refine a6 ?_; refine a8 _ rfl (fun e => Bool.noConfusion ((j5 r2 rfl).symm.trans e)) (fun _ => ?_)
     refine aa ?_; refine sx7 ?_; (iterate 2 refine qy ?_); refine rc rfl rfl rfl rfl rfl rfl a3f (x5 l.length false (lf Fd.c l) (by omega)) (CoL.refl _) rfl rfl ?_; refine qy ?_
     refine rc rfl rfl rfl rfl rfl rfl va (wq ps.length false (lf sC ps) (by omega)) (CoL.refl _) rfl rfl ?_; refine rc rfl rfl rfl rfl rfl rfl a4p (afj n l ps hl) (CoL.refl _) rfl rfl ?_; (iterate 5 refine qy ?_)
     refine a6 ?_; refine sx7 ?_; (iterate 3 refine qy ?_); refine rc rfl rfl rfl rfl rfl rfl a4o (a3j n l ps hl) (CoL.refl _) rfl rfl ?_; (iterate 5 refine qy ?_); refine a6 ?_; refine sx7 ?_
     (iterate 4 refine qy ?_); refine aw rfl rfl (fun r6 => ?_) (fun r6 => ?_)
     ·
      have h6 := r6
      (iterate 3 refine qy ?_ (hg := (gtt r6))); (iterate 2 refine qy ?_); refine a6 ?_
      exact hx8 rfl rfl rfl (⟨ccb (by simp_all), trivial⟩)
     ·
      have h6 := r6
      (iterate 3 refine k9 (gft r6) ?_); refine rq rfl rfl rfl rfl rfl ?_ (hp := r6); refine qy ?_; refine a6 ?_
      exact hx8 rfl rfl rfl (⟨ccb (by simp_all), trivial⟩)
  ·
   have h1 := of_decide_eq_false r1
   try simp only [ty] at h1
   (iterate 4 refine k9 (gft r1) ?_); refine rq rfl rfl rfl rfl (gff r0) ?_ (hp := r1); (iterate 2 refine qy ?_); (iterate 4 refine rq rfl rfl rfl rfl (gff (j5 r0 rfl)) ?_); refine aw rfl rfl (fun r7 => ?_) (fun r7 => ?_)
   ·
    have h7 := of_decide_eq_true r7
    try simp only [ty] at h7
    (iterate 3 refine qy ?_ (hg := (gtt r7))); refine rq rfl rfl rfl rfl (gff (j5 r0 rfl)) ?_; refine qy ?_; refine a6 ?_; refine a8 _ rfl (fun r8 => ?_) (fun r8 => ?_)
    ·
     have h8 := r8
     have h8 := be (j5 r0 rfl) h8
     have h8 := c6 r7 h8
     have h8 := of_decide_eq_true h8
     try simp only [ty] at h8
     refine sx7 ?_; refine rc rfl rfl rfl rfl rfl rfl za (vc zq) (CoL.refl _) rfl rfl ?_; refine qy ?_; refine a6 ?_
     exact hx8 rfl rfl rfl (CoL.refl _)
    ·
     have h8 := r8
     have h8 := be (j5 r0 rfl) h8
     have h8 := c6 r7 h8
     have h8 := of_decide_eq_false h8
     try simp only [ty] at h8
     refine aa ?_; refine sx7 ?_; (iterate 2 refine qy ?_); refine rc rfl rfl rfl rfl rfl rfl a3f (x5 l.length false (lf Fd.c l) (by omega)) (CoL.refl _) rfl rfl ?_; refine qy ?_
     refine rc rfl rfl rfl rfl rfl rfl va (wq ps.length false (lf sC ps) (by omega)) (CoL.refl _) rfl rfl ?_; refine rc rfl rfl rfl rfl rfl rfl a4p (afj n l ps hl) (CoL.refl _) rfl rfl ?_; (iterate 5 refine qy ?_)
     refine a6 ?_; refine sx7 ?_; (iterate 3 refine qy ?_); refine rc rfl rfl rfl rfl rfl rfl a4o (a3j n l ps hl) (CoL.refl _) rfl rfl ?_; (iterate 5 refine qy ?_); refine a6 ?_; refine sx7 ?_
     (iterate 4 refine qy ?_); refine aw rfl rfl (fun r9 => ?_) (fun r9 => ?_)
     ·
      have h9 := r9
      (iterate 3 refine qy ?_ (hg := (gtt r9))); (iterate 2 refine qy ?_); refine a6 ?_
      exact hx8 rfl rfl rfl (⟨ccb (by simp_all), trivial⟩)
     ·
      have h9 := r9
      (iterate 3 refine k9 (gft r9) ?_); refine rq rfl rfl rfl rfl rfl ?_ (hp := r9); refine qy ?_; refine a6 ?_
      exact hx8 rfl rfl rfl (⟨ccb (by simp_all), trivial⟩)
   ·
    have h7 := of_decide_eq_false r7
    try simp only [ty] at h7
    (iterate 3 refine k9 (gft r7) ?_); refine rq rfl rfl rfl rfl (gff (j5 r0 rfl)) ?_ (hp := r7); refine qy ?_; refine a6 ?_
    refine a8 _ rfl (fun e => Bool.noConfusion ((j5 (j5 r0 rfl) rfl).symm.trans e)) (fun _ => ?_); refine aa ?_; refine sx7 ?_; (iterate 2 refine qy ?_)
    refine rc rfl rfl rfl rfl rfl rfl a3f (x5 l.length false (lf Fd.c l) (by omega)) (CoL.refl _) rfl rfl ?_; refine qy ?_
    refine rc rfl rfl rfl rfl rfl rfl va (wq ps.length false (lf sC ps) (by omega)) (CoL.refl _) rfl rfl ?_; refine rc rfl rfl rfl rfl rfl rfl a4p (afj n l ps hl) (CoL.refl _) rfl rfl ?_; (iterate 5 refine qy ?_)
    refine a6 ?_; refine sx7 ?_; (iterate 3 refine qy ?_); refine rc rfl rfl rfl rfl rfl rfl a4o (a3j n l ps hl) (CoL.refl _) rfl rfl ?_; (iterate 5 refine qy ?_); refine a6 ?_; refine sx7 ?_
    (iterate 4 refine qy ?_); refine aw rfl rfl (fun r10 => ?_) (fun r10 => ?_)
    ·
     have h10 := r10
     (iterate 3 refine qy ?_ (hg := (gtt r10))); (iterate 2 refine qy ?_); refine a6 ?_
     exact hx8 rfl rfl rfl (⟨ccb (by simp_all), trivial⟩)
    ·
     have h10 := r10
     (iterate 3 refine k9 (gft r10) ?_); refine rq rfl rfl rfl rfl rfl ?_ (hp := r10); refine qy ?_; refine a6 ?_
     exact hx8 rfl rfl rfl (⟨ccb (by simp_all), trivial⟩)
end Go.Hx
end
