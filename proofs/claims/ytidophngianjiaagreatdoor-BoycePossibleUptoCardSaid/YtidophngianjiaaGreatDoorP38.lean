/- A part of the proof: lemmas for the theorem of this claim, merged by a program of ours out of W4, W4c, W4b. -/
import Derived.Test.YtidophngianjiaaGreatDoorP37
set_option linter.all false
section
namespace Go.Hx
open Go.Proofs
set_option maxRecDepth 100000
set_option maxHeartbeats 1000000
theorem good76 : goodFn Tryz.prog 76 := ⟨Tryz.f76, Tryz.func76, by kernel_rfl, by kernel_rfl⟩
theorem cRPres (l : List Fd) (ps : List AS) (f : Fd) (hl : ps.length ≤ 8589934592) : HPure Tryz.prog 76 [pP (fdl l), pP (asl ps), f.pc] (prOf [pB (presB l ps f)]) := by
 refine hpure_of (nt := 41) Tryzok Tryz.func76 rfl rfl l9 ?_; refine hw_seq ?_; refine gy ?_; refine m9 0 ?_; refine qy ?_; refine rg_nil ?_; refine hw_seq ?_; refine gy ?_; (iterate 3 refine qy ?_); refine rg_nil ?_
 refine hw_block ?_
 refine hw_loopK (ι := AS) ⟨[(0, some _), (1, some _), (5, some _)], [(0, some _)]⟩ ⟨⟨c9, c9, c9, trivial⟩, ⟨u9, trivial⟩⟩ (fun s => ⟨[(7, some (vA s))], []⟩) (fun s => PrI l ps f.lhs s) (fun s => 4294967296 - s.toNat) (f.lhs) (pr_zero _ _ _) ⟨⟨zy, trivial⟩, trivial⟩ ?_
 rintro s hs
 refine hw_block ?_; refine hw_seq ?_; refine gy ?_; (iterate 2 refine qy ?_); refine rg_nil ?_; (iterate 2 refine hw_seq ?_); refine gy ?_; refine qy ?_; refine rg_nil ?_; refine hw_block ?_
 refine hw_loopK (ι := Nat) ⟨[(0, some _), (1, some _), (5, some _), (8, some _)], [(0, some _)]⟩ ⟨⟨c9, c9, c9, c9, trivial⟩, ⟨u9, trivial⟩⟩ (fun i => ⟨[(7, some (vA (pRound l (ps.take i) s))), (9, some (vI i))], []⟩) (fun i => i ≤ ps.length) (fun i => ps.length - i) (0) (Nat.zero_le _) ⟨⟨zy, zy, trivial⟩, trivial⟩ ?_
 rintro i hi
 (iterate 2 refine hw_seq ?_); refine gy ?_; (iterate 4 refine qy ?_); refine rg_nil ?_; refine hw_cond _ rfl (fun r0 => ?_) (fun r0 => ?_)
 ·
  have h0 := of_decide_eq_true r0
  try simp only [ty] at h0
  refine hw_skip ?_; refine hw_seq ?_; refine hw_block ?_; refine hw_draw (E := TryzE) Tryzok Tryzmixed [0, 1, 2, 3, 4, 5, 6, 7, 8, 9, 10, 11, 12, 13, 14, 15] ?_; (iterate 8 refine qy ?_)
  refine rc rfl rfl rfl rfl rfl rfl good128 (cRClose l ((pRound l (ps.take i) s) &&& (ps.getD i default))) (⟨CoC.refl _, cci (bAnd _ _), trivial⟩) rfl rfl ?_; (iterate 7 refine qy ?_); refine rg_nil ?_; refine ⟨by kernel_rfl, ?_⟩
  refine gy ?_; (iterate 3 refine qy ?_); refine rg_nil ?_; refine ⟨i + 1, ?_, ?_, ?_⟩
  · show i + 1 ≤ _; omega
  · first | omega | (dsimp only; omega)
  · exact ⟨⟨⟨_, rfl, (cor_i ((pStep_v _ _ _).trans (congrArg asI (pRound_t (by omega)).symm)))⟩, zy, c9, c9, c9, c9, trivial⟩, ⟨u9, trivial⟩⟩
 ·
  have h0 := of_decide_eq_false r0
  try simp only [ty] at h0
  obtain rfl : i = ps.length := by omega
  rw [show ps.take ps.length = ps from List.take_length]
  refine hw_exit ?_; refine hw_seq ?_; refine gy ?_; (iterate 3 refine qy ?_); refine rg_nil ?_; refine hw_cond _ rfl (fun r1 => ?_) (fun r1 => ?_)
  ·
   have h1 := of_decide_eq_true r1
   try simp only [ty] at h1
   have he : pRound l ps s = s := asI_inj.1 h1
   refine hw_seq ?_; refine gy ?_; (iterate 3 refine qy ?_); refine rc rfl rfl rfl rfl rfl rfl good81 (cRSub f.rhs (pRound l ps s)) (CoL.refl _) rfl rfl ?_; refine qy ?_; refine rg_nil ?_; refine hw_ret ?_; refine ⟨.inr rfl, ?_⟩
   exact f9 rfl rfl (⟨ccb (by rw [he]; exact pr_res hs he), trivial⟩)
  ·
   have h1 := of_decide_eq_false r1
   try simp only [ty] at h1
   have hne : ¬ pRound l ps s = s := fun e => h1 (by rw [e])
   refine hw_skip ?_; refine ⟨pRound l ps s, ?_, ?_, ?_⟩
   · exact pr_next hs
   · exact pr_less hne
   · exact ⟨⟨zy, c9, c9, c9, trivial⟩, ⟨u9, trivial⟩⟩
theorem good37 : goodFn Tryz.prog 37 := ⟨Tryz.f37, Tryz.func37, by kernel_rfl, by kernel_rfl⟩
theorem cR24All (l : List Fd) (ps : List AS) (hl : ps.length ≤ 8589934592) : HPure Tryz.prog 37 [pP (fdl l), pP (asl ps)] (prOf [pB (allP l ps)]) := by
 refine hpure_of (nt := 20) Tryzok Tryz.func37 rfl rfl l9 ?_; refine hw_seq ?_; refine gy ?_; refine qy ?_; refine rg_nil ?_; (iterate 2 refine hw_seq ?_)
 refine hw_bt 0 rfl fun hn => ?_
 refine gy ?_; refine qy ?_; refine rg_nil ?_; refine hw_block ?_
 refine hw_loopK (ι := Nat) ⟨[(0, some _), (1, some _)], []⟩ ⟨⟨c9, c9, trivial⟩, trivial⟩ (fun i => ⟨[(5, some (vI i))], []⟩) (fun i => i ≤ l.length ∧ ∀ j, j < i → presB l ps (l.getD j default) = true) (fun i => l.length - i) (0) (⟨Nat.zero_le _, fun j hj => absurd hj (Nat.not_lt_zero j)⟩) ⟨⟨zy, trivial⟩, trivial⟩ ?_
 rintro i ⟨hi, hI⟩
 (iterate 2 refine hw_seq ?_); refine gy ?_; (iterate 4 refine qy ?_); refine rg_nil ?_; refine hw_cond _ rfl (fun r0 => ?_) (fun r0 => ?_)
 ·
  have h0 := of_decide_eq_true r0
  try simp only [ty] at h0
  refine hw_skip ?_; refine hw_seq ?_; refine hw_block ?_; refine hw_seq ?_; refine gy ?_; (iterate 6 refine qy ?_); refine rc rfl rfl rfl rfl rfl rfl good76 (cRPres l ps (l.getD i default) hl) (CoL.refl _) rfl rfl ?_
  refine qy ?_; refine rg_nil ?_; refine hw_cond _ rfl (fun r1 => ?_) (fun r1 => ?_)
  ·
   have h1 := r1
   have h1 := not_t h1
   refine hw_seq ?_; refine gy ?_; refine qy ?_; refine rg_nil ?_; refine hw_ret ?_; refine ⟨.inr rfl, ?_⟩
   exact f9 rfl rfl (⟨ccb (allP_no (i := i) (by omega) (by simp_all)).symm, trivial⟩)
  ·
   have h1 := r1
   have h1 := not_f h1
   refine hw_skip ?_; refine gy ?_; (iterate 3 refine qy ?_); refine rg_nil ?_; refine ⟨i + 1, ?_, ?_, ?_⟩
   · refine ⟨by omega, fun j hj => ?_⟩
     by_cases e : j = i
     · rw [e]; simp_all
     · exact hI j (by omega)
   · first | omega | (dsimp only; omega)
   · exact ⟨⟨zy, c9, c9, trivial⟩, trivial⟩
 ·
  have h0 := of_decide_eq_false r0
  try simp only [ty] at h0
  obtain rfl : i = l.length := by omega
  refine hw_exit ?_; refine hw_seq ?_; refine gy ?_; refine qy ?_; refine rg_nil ?_; refine hw_ret ?_; refine ⟨.inr rfl, ?_⟩
  exact f9 rfl rfl (⟨ccb (allP_yes hI).symm, trivial⟩)
theorem good74 : goodFn Tryz.prog 74 := ⟨Tryz.f74, Tryz.func74, by kernel_rfl, by kernel_rfl⟩
theorem cR24Subs (n : Int) (l : List Fd) : HPure Tryz.prog 74 [pI n, pP (fdl l)] (prOf [pP (asl (subF n l)), pI (errS n l 8)]) := by
 refine hpure_of (nt := 39) Tryzok Tryz.func74 rfl rfl l9 ?_; refine hw_seq ?_; refine gy ?_; (iterate 2 refine qy ?_); refine rg_nil ?_; (iterate 2 refine hw_seq ?_); refine gy ?_; (iterate 2 refine qy ?_)
 refine rc rfl rfl rfl rfl rfl rfl good63 (cRErr n l 8) (CoL.refl _) rfl rfl ?_; refine qy ?_; refine rg_nil ?_; refine hw_seq ?_; refine gy ?_; (iterate 2 refine qy ?_); refine rg_nil ?_
 refine hw_cond _ rfl (fun r0 => ?_) (fun r0 => ?_)
 ·
  have h0 := r0
  have h0 := of_decide_eq_false (not_t h0)
  try simp only [ty] at h0
  refine hw_seq ?_; refine gy ?_; (iterate 3 refine qy ?_); refine rg_nil ?_; refine hw_ret ?_; refine ⟨.inr rfl, ?_⟩
  exact f9 rfl rfl (⟨CoC.one (nilS (subF_f h0)), CoC.refl _, trivial⟩)
 ·
  have h0 := r0
  have h0 := of_decide_eq_true (not_f h0)
  try simp only [ty] at h0
  refine hw_skip ?_; refine hw_seq ?_
  have hsl := subsC_len (fullI n)
  refine gy ?_; refine qy ?_; refine rc rfl rfl rfl rfl rfl rfl good20 (cRFull n) (CoL.refl _) rfl rfl ?_; refine rc rfl rfl rfl rfl rfl rfl good101 (cRSubs (fullI n)) (CoL.refl _) rfl rfl ?_; refine qy ?_; refine rg_nil ?_
  refine hw_seq ?_; refine gy ?_; refine qy ?_; refine rg_nil ?_; (iterate 2 refine hw_seq ?_); refine gy ?_; refine qy ?_; refine rg_nil ?_; refine hw_block ?_
  refine hw_adopt 8 900 true 1 38 (lf sC []) (by decide) rfl (CoP.sl rfl (.inr rfl) (fun h => h) (fun i j hi _ => absurd hi (Nat.not_lt_zero i))) (.inr rfl) rfl ?_
  refine hw_loopK (ι := Nat) ⟨[(1, some _), (7, some _)], []⟩ ⟨⟨c9, c9, trivial⟩, trivial⟩ (fun i => ⟨[(8, some (.v (.one (.ref 900 (sbfT n l i).length)))), (9, some (vI i))], [(900, some (.arr true 1 38 (sbfT n l i).length (lf sC (sbfT n l i))))]⟩) (fun i => i ≤ (subsC (fullI n)).length) (fun i => (subsC (fullI n)).length - i) (0) (Nat.zero_le _) ⟨⟨zy, zy, trivial⟩, ⟨u9, trivial⟩⟩ ?_
  rintro i hi
  have hlen := sbfT_len n l i
  (iterate 2 refine hw_seq ?_); refine gy ?_; (iterate 4 refine qy ?_); refine rg_nil ?_; refine hw_cond _ rfl (fun r1 => ?_) (fun r1 => ?_)
  ·
   have h1 := of_decide_eq_true r1
   try simp only [ty] at h1
   refine hw_skip ?_; refine hw_seq ?_; refine hw_block ?_; refine hw_seq ?_; refine gy ?_; (iterate 5 refine qy ?_); refine rc rfl rfl rfl rfl rfl rfl good67 (cRForm l ((subsC (fullI n)).getD i default)) (CoL.refl _) rfl rfl ?_
   refine rg_nil ?_; refine hw_cond _ rfl (fun r2 => ?_) (fun r2 => ?_)
   ·
    have h2 := r2
    refine gy ?_; (iterate 5 refine qy ?_); refine m9 0 ?_; refine ra 1 true rfl rfl rfl rfl rfl rfl ?_; refine qy ?_; refine rg_nil ?_; refine gy ?_; (iterate 3 refine qy ?_); refine rg_nil ?_
    first | (refine ⟨i + 1, ?_, ?_, ?_⟩
             · show i + 1 ≤ _; omega
             · first | omega | (dsimp only; omega)
             · exact ⟨⟨⟨_, rfl, (ref_app (sbfT_t (by omega) (by assumption)))⟩, zy, c9, c9, trivial⟩, ⟨⟨_, rfl, (arr_app1 (sbfT_t (by omega) (by assumption)) (CoP.refl _))⟩, trivial⟩⟩)
          | (refine ⟨i + 1, ?_, ?_, ?_⟩
             · show i + 1 ≤ _; omega
             · first | omega | (dsimp only; omega)
             · exact ⟨⟨⟨_, rfl, (ref_same (sbfT_f (by omega) (by assumption)))⟩, zy, c9, c9, trivial⟩, ⟨⟨_, rfl, (arr_same (sbfT_f (by omega) (by assumption)))⟩, trivial⟩⟩)
   ·
    have h2 := r2
    refine hw_skip ?_; refine gy ?_; (iterate 3 refine qy ?_); refine rg_nil ?_
    first | (refine ⟨i + 1, ?_, ?_, ?_⟩
             · show i + 1 ≤ _; omega
             · first | omega | (dsimp only; omega)
             · exact ⟨⟨⟨_, rfl, (ref_app (sbfT_t (by omega) (by assumption)))⟩, zy, c9, c9, trivial⟩, ⟨⟨_, rfl, (arr_app1 (sbfT_t (by omega) (by assumption)) (CoP.refl _))⟩, trivial⟩⟩)
          | (refine ⟨i + 1, ?_, ?_, ?_⟩
             · show i + 1 ≤ _; omega
             · first | omega | (dsimp only; omega)
             · exact ⟨⟨⟨_, rfl, (ref_same (sbfT_f (by omega) (by assumption)))⟩, zy, c9, c9, trivial⟩, ⟨⟨_, rfl, (arr_same (sbfT_f (by omega) (by assumption)))⟩, trivial⟩⟩)
  ·
   have h1 := of_decide_eq_false r1
   try simp only [ty] at h1
   obtain rfl : i = (subsC (fullI n)).length := by omega
   refine hw_exit ?_; refine hw_seq ?_; refine gy ?_; (iterate 3 refine qy ?_); refine rg_nil ?_; refine hw_freeze 4 rfl rfl rfl ?_; refine hw_ret ?_; refine ⟨.inr rfl, ?_⟩
   exact f9 rfl rfl (⟨CoC.one (CoP.of_eq (by rw [sbfT_end h0]; rfl)), cci h0.symm, trivial⟩)
theorem good75 : goodFn Tryz.prog 75 := ⟨Tryz.f75, Tryz.func75, by kernel_rfl, by kernel_rfl⟩
theorem cEnough (n : Int) (l : List Fd) (ps : List AS) (hl : ps.length ≤ 8589934592) : HPure Tryz.prog 75 [pI n, pP (fdl l), pP (asl ps)] (prOf [pB (goodB n l ps)]) := by
 refine hpure_of (nt := 44) Tryzok Tryz.func75 rfl rfl l9 ?_; refine hw_seq ?_; refine gy ?_; refine qy ?_; refine rg_nil ?_; refine hw_seq ?_; refine gy ?_; refine qy ?_; refine rg_nil ?_; refine hw_seq ?_; refine gy ?_
 refine qy ?_; refine rg_nil ?_; (iterate 2 refine hw_seq ?_); refine gy ?_; refine qy ?_; refine rg_nil ?_; refine hw_block ?_
 refine hw_loopK (ι := Nat) ⟨[(0, some _), (1, some _), (2, some _)], []⟩ ⟨⟨c9, c9, c9, trivial⟩, trivial⟩ (fun i => ⟨[(7, some (vA (orL (ps.take i)))), (8, some (vB ((ps.take i).any (skey n l)))), (9, some (vI i))], []⟩) (fun i => i ≤ ps.length) (fun i => ps.length - i) (0) (Nat.zero_le _) ⟨⟨⟨_, rfl, (CoR.refl _)⟩, ⟨_, rfl, (CoR.refl _)⟩, zy, trivial⟩, trivial⟩ ?_
 rintro i hi
 (iterate 2 refine hw_seq ?_); refine gy ?_; (iterate 4 refine qy ?_); refine rg_nil ?_; refine hw_cond _ rfl (fun r0 => ?_) (fun r0 => ?_)
 ·
  have h0 := of_decide_eq_true r0
  try simp only [ty] at h0
  refine hw_skip ?_; refine hw_seq ?_; refine hw_block ?_; refine hw_seq ?_; refine gy ?_; (iterate 7 refine qy ?_); refine rg_nil ?_; refine gy ?_; (iterate 2 refine qy ?_); refine rsplit rfl rfl (fun r1 => ?_) (fun r1 => ?_)
  ·
   have h1 := r1
   (iterate 7 refine k9 (gtf r1) ?_); refine rq rfl rfl rfl rfl rfl ?_ (hp := r1); refine qy ?_; refine rg_nil ?_; refine gy ?_; (iterate 3 refine qy ?_); refine rg_nil ?_; refine ⟨i + 1, ?_, ?_, ?_⟩
   · show i + 1 ≤ _; omega
   · first | omega | (dsimp only; omega)
   · exact ⟨⟨⟨_, rfl, (cor_i (by rw [bOr, orL_take (by omega)]; rfl))⟩, ⟨_, rfl, (cob (any_succ (by omega) (by first | exact .inl ⟨by assumption, by first | rfl | simp_all⟩ | exact .inr ⟨by assumption, by first | rfl | simp_all⟩)))⟩, zy, c9, c9, c9, trivial⟩, trivial⟩
  ·
   have h1 := r1
   (iterate 6 refine qy ?_ (hg := (gff r1))); refine rc rfl rfl rfl rfl rfl rfl good127 (cRSkey n l (ps.getD i default)) (CoL.refl _) rfl (gff r1) ?_; (iterate 2 refine qy ?_); refine rg_nil ?_; refine gy ?_
   (iterate 3 refine qy ?_); refine rg_nil ?_; refine ⟨i + 1, ?_, ?_, ?_⟩
   · show i + 1 ≤ _; omega
   · first | omega | (dsimp only; omega)
   · exact ⟨⟨⟨_, rfl, (cor_i (by rw [bOr, orL_take (by omega)]; rfl))⟩, ⟨_, rfl, (cob (any_succ (by omega) (by first | exact .inl ⟨by assumption, by first | rfl | simp_all⟩ | exact .inr ⟨by assumption, by first | rfl | simp_all⟩)))⟩, zy, c9, c9, c9, trivial⟩, trivial⟩
 ·
  have h0 := of_decide_eq_false r0
  try simp only [ty] at h0
  obtain rfl : i = ps.length := by omega
  refine hw_exit ?_; refine hw_seq ?_; refine gy ?_; (iterate 2 refine qy ?_); refine rsplit rfl rfl (fun r2 => ?_) (fun r2 => ?_)
  ·
   have h2 := r2
   (iterate 2 refine qy ?_ (hg := (gtt r2))); refine rc rfl rfl rfl rfl rfl rfl good20 (cRFull n) (CoL.refl _) rfl (gtt r2) ?_; refine qy ?_ (hg := (gtt r2)); (iterate 2 refine qy ?_)
   refine rsplit rfl rfl (fun r3 => ?_) (fun r3 => ?_)
   ·
    have h3 := r3
    have h3 := bif_t r2 h3
    have h3 := of_decide_eq_true h3
    try simp only [ty] at h3
    (iterate 2 refine qy ?_ (hg := (gtt r3))); refine rc rfl rfl rfl rfl rfl rfl good37 (cR24All l ps hl) (CoL.refl _) rfl (gtt r3) ?_; (iterate 2 refine qy ?_); refine rg_nil ?_; refine hw_ret ?_; refine ⟨.inr rfl, ?_⟩
    exact f9 rfl rfl (⟨ccb (by first | (rw [en_v]; done) | (rw [en_v]; first | rfl | simp_all)), trivial⟩)
   ·
    have h3 := r3
    have h3 := bif_t r2 h3
    have h3 := of_decide_eq_false h3
    try simp only [ty] at h3
    (iterate 3 refine k9 (gft r3) ?_); refine rq rfl rfl rfl rfl rfl ?_ (hp := r3); refine qy ?_; refine rg_nil ?_; refine hw_ret ?_; refine ⟨.inr rfl, ?_⟩
    exact f9 rfl rfl (⟨ccb (by first | (rw [en_v]; done) | (rw [en_v]; first | rfl | simp_all)), trivial⟩)
  ·
   have h2 := r2
   (iterate 4 refine k9 (gft r2) ?_); refine rq rfl rfl rfl rfl rfl ?_ (hp := r2); refine qy ?_; (iterate 3 refine k9 rfl ?_); (iterate 2 refine qy ?_); refine rg_nil ?_; refine hw_ret ?_; refine ⟨.inr rfl, ?_⟩
   exact f9 rfl rfl (⟨ccb (by first | (rw [en_v]; done) | (rw [en_v]; first | rfl | simp_all)), trivial⟩)
theorem good36 : goodFn Tryz.prog 36 := ⟨Tryz.f36, Tryz.func36, by kernel_rfl, by kernel_rfl⟩
theorem cRPoss (n : Int) (l : List Fd) : HPure Tryz.prog 36 [pI n, pP (fdl l)] (prOf [pP (asl (possL n l)), pB (possB n l), pI (errS n l 8)]) := by
 refine hpure_of (nt := 52) Tryzok Tryz.func36 rfl rfl l9 ?_; refine hw_seq ?_; refine gy ?_; (iterate 3 refine qy ?_); refine rg_nil ?_; refine hw_seq ?_; refine gy ?_; (iterate 2 refine qy ?_)
 refine rc rfl rfl rfl rfl rfl rfl good74 (cR24Subs n l) (CoL.refl _) rfl rfl ?_; (iterate 5 refine qy ?_); refine rg_nil ?_; (iterate 2 refine hw_seq ?_); refine gy ?_; (iterate 3 refine qy ?_)
 refine rsplit rfl rfl (fun r0 => ?_) (fun r0 => ?_)
 ·
  have h0 := r0
  have h0 := of_decide_eq_false (not_t h0)
  try simp only [ty] at h0
  (iterate 4 refine k9 (gtf r0) ?_); refine rq rfl rfl rfl rfl rfl ?_ (hp := r0); refine rg_nil ?_; refine hw_cond _ rfl (fun _ => ?_) (fun e => by cases e); refine hw_seq ?_; refine gy ?_; (iterate 4 refine qy ?_)
  refine rg_nil ?_; refine hw_ret ?_; refine ⟨.inr rfl, ?_⟩
  have hpr : possL n l = [] ∧ possB n l = false := by
   by_cases h8 : errS n l 8 = 0
   · exact poss_2 (by unfold possAll; simp_all)
   · exact poss_1 h8
  exact f9 rfl rfl (⟨CoC.one (nilS hpr.1), ccb hpr.2.symm, CoC.refl _, trivial⟩)
 ·
  have h0 := r0
  have h0 := of_decide_eq_true (not_f h0)
  try simp only [ty] at h0
  (iterate 2 refine qy ?_ (hg := (gff r0))); refine rc rfl rfl rfl rfl rfl rfl good37 (cR24All l (subF n l) (Nat.le_trans (subF_len n l) (by decide))) (CoL.refl _) rfl (gff r0) ?_; refine qy ?_ (hg := (gff r0)); refine qy ?_
  refine rg_nil ?_; refine hw_cond _ rfl (fun r1 => ?_) (fun r1 => ?_)
  ·
   have h1 := r1
   have h1 := bif_f r0 h1
   have h1 := not_t h1
   refine hw_seq ?_; refine gy ?_; (iterate 4 refine qy ?_); refine rg_nil ?_; refine hw_ret ?_; refine ⟨.inr rfl, ?_⟩
   have hpr : possL n l = [] ∧ possB n l = false := by
    by_cases h8 : errS n l 8 = 0
    · exact poss_2 (by unfold possAll; simp_all)
    · exact poss_1 h8
   exact f9 rfl rfl (⟨CoC.one (nilS hpr.1), ccb hpr.2.symm, CoC.refl _, trivial⟩)
  ·
   have h1 := r1
   have h1 := bif_f r0 h1
   have h1 := not_f h1
   have h8 : errS n l 8 = 0 := by simp_all
   have hall : possAll n l = true := by unfold possAll; simp_all
   have hnd := maxl_nodup (subF n l)
   have hml : (maxl (subF n l)).length ≤ 4294967296 := Nat.le_trans (maxl_len _) (subF_len n l)
   refine hw_skip ?_; refine hw_seq ?_; refine gy ?_; refine qy ?_; refine rc rfl rfl rfl rfl rfl rfl good47 (cRMaximal (subF n l) (Nat.le_trans (subF_len n l) (by decide))) (CoL.refl _) rfl rfl ?_; refine qy ?_; refine rg_nil ?_
   (iterate 2 refine hw_seq ?_); refine gy ?_; (iterate 4 refine qy ?_); refine rg_nil ?_; refine hw_block ?_
   refine hw_loopK (ι := Nat) ⟨[(0, some _), (1, some _)], []⟩ ⟨⟨c9, c9, trivial⟩, trivial⟩ (fun j => ⟨[(9, some (.v (.one (.p (asl (possN n l (maxl (subF n l)) j)))))), (10, some (vI (((maxl (subF n l)).length : Int) - 1 - j)))], []⟩) (fun j => j ≤ (maxl (subF n l)).length) (fun j => (maxl (subF n l)).length - j) (0) (Nat.zero_le _) ⟨⟨⟨_, rfl, (CoR.refl _)⟩, ⟨_, rfl, (coi (by omega))⟩, trivial⟩, trivial⟩ ?_
   rintro j hjl
   (iterate 2 refine hw_seq ?_); refine gy ?_; (iterate 2 refine qy ?_); refine rg_nil ?_; refine hw_cond _ rfl (fun r2 => ?_) (fun r2 => ?_)
   ·
    have h2 := of_decide_eq_true r2
    try simp only [ty] at h2
    have hj : j < (maxl (subF n l)).length := by omega
    obtain ⟨htk, hln⟩ := possN_take (n := n) (l := l) hnd j (by omega)
    have hup := possN_len n l (maxl (subF n l)) j
    have hstep := possN_step (n := n) (l := l) hnd hj
    refine hw_skip ?_; refine hw_seq ?_; refine hw_block ?_; refine hw_seq ?_; refine hw_draw (E := TryzE) Tryzok Tryzmixed [0, 1, 2, 3, 4, 5, 6, 7, 8, 9, 10] ?_; refine m9 0 ?_; (iterate 3 refine qy ?_)
    refine ra 1 true rfl rfl rfl rfl rfl rfl ?_; (iterate 4 refine qy ?_); refine ra 2 true rfl rfl rfl rfl rfl rfl ?_; refine qy ?_; refine rg_nil ?_; refine ⟨by kernel_rfl, ?_⟩; refine hw_seq ?_
    refine hw_freeze 11 rfl rfl rfl ?_; refine gy ?_; (iterate 3 refine qy ?_)
    refine rc rfl rfl rfl rfl rfl rfl good75 (cEnough n l ((possN n l (maxl (subF n l)) j).take ((maxl (subF n l)).length - 1 - j) ++ (possN n l (maxl (subF n l)) j).drop (((maxl (subF n l)).length - 1 - j) + 1)) (by rw [List.length_append, List.length_take, List.length_drop]; omega)) (⟨CoC.refl _, CoC.refl _, CoC.one (co_cutR (by omega) (by omega) (by omega)), trivial⟩) rfl rfl ?_
    refine rg_nil ?_; refine hw_cond _ rfl (fun r3 => ?_) (fun r3 => ?_)
    ·
     have h3 := r3
     refine gy ?_; (iterate 2 refine qy ?_); refine rg_nil ?_; refine gy ?_; (iterate 3 refine qy ?_); refine rg_nil ?_
     first | (refine ⟨j + 1, ?_, ?_, ?_⟩
              · show j + 1 ≤ _; omega
              · first | omega | (dsimp only; omega)
              · exact ⟨⟨⟨_, rfl, (by rw [hstep, if_pos (by assumption)]; exact CoC.one (co_cutR (by omega) (by omega) (by omega)))⟩, ⟨_, rfl, (coi (by omega))⟩, c9, c9, trivial⟩, trivial⟩)
           | (refine ⟨j + 1, ?_, ?_, ?_⟩
              · show j + 1 ≤ _; omega
              · first | omega | (dsimp only; omega)
              · exact ⟨⟨⟨_, rfl, (by rw [hstep, if_neg (by simp_all)]; exact CoR.refl _)⟩, ⟨_, rfl, (coi (by omega))⟩, c9, c9, trivial⟩, trivial⟩)
    ·
     have h3 := r3
     refine hw_skip ?_; refine gy ?_; (iterate 3 refine qy ?_); refine rg_nil ?_
     first | (refine ⟨j + 1, ?_, ?_, ?_⟩
              · show j + 1 ≤ _; omega
              · first | omega | (dsimp only; omega)
              · exact ⟨⟨⟨_, rfl, (by rw [hstep, if_pos (by assumption)]; exact CoC.one (co_cutR (by omega) (by omega) (by omega)))⟩, ⟨_, rfl, (coi (by omega))⟩, c9, c9, trivial⟩, trivial⟩)
           | (refine ⟨j + 1, ?_, ?_, ?_⟩
              · show j + 1 ≤ _; omega
              · first | omega | (dsimp only; omega)
              · exact ⟨⟨⟨_, rfl, (by rw [hstep, if_neg (by simp_all)]; exact CoR.refl _)⟩, ⟨_, rfl, (coi (by omega))⟩, c9, c9, trivial⟩, trivial⟩)
   ·
    have h2 := of_decide_eq_false r2
    try simp only [ty] at h2
    obtain rfl : j = (maxl (subF n l)).length := by omega
    refine hw_exit ?_; refine hw_seq ?_; refine gy ?_; (iterate 4 refine qy ?_); refine rg_nil ?_; refine hw_ret ?_; refine ⟨.inr rfl, ?_⟩
    have hpr := poss_3 h8 hall
    exact f9 rfl rfl (by rw [hpr.1, hpr.2, h8]; exact CoL.refl _)
end Go.Hx
end
section
namespace Go.Hx
open Go.Proofs
theorem cPossD {d : Dps} (h : d.l.length ≤ 6) : HPure Tryz.prog 35 [pI d.num, pP (fdl d.fds)] (prOf [pP (asl (possL d.num d.fds)), pB (possB d.num d.fds), pI 0]) := by
 have := cPoss d.num d.fds
 rw [dps_errS h] at this
 exact this
theorem cRPossD {d : Dps} (h : d.l.length ≤ 6) : HPure Tryz.prog 36 [pI d.num, pP (fdl d.fds)] (prOf [pP (asl (possL d.num d.fds)), pB (possB d.num d.fds), pI 0]) := by
 have := cRPoss d.num d.fds
 rw [dps_errS h] at this
 exact this
theorem possD_ok {d : Dps} (h : d.l.length ≤ 6) (hb : possB d.num d.fds = true) : lsC d.num (possL d.num d.fds) d.fds [] = 0 ∧ bckB d.num d.fds (possL d.num d.fds) = true ∧ allP d.fds (possL d.num d.fds) = true := poss_ok (dps_errS h) (dps_num d).2 hb
theorem possL_len (n : Int) (l : List Fd) : (possL n l).length ≤ 8589934592 := by
 unfold possL
 split
 · exact Nat.le_trans (possN_len n l _ _) (Nat.le_trans (maxl_len _) (Nat.le_trans (subF_len n l) (by decide)))
 · simp
theorem cR24AllX {l : List Fd} {ps : List AS} (h : ps.length ≤ 8589934592) (h2 : allP l ps = true) : HPure Tryz.prog 37 [pP (fdl l), pP (asl ps)] (prOf [pB true]) := by
 have := cR24All l ps h
 rw [h2] at this
 exact this
end Go.Hx
end
section
namespace Go.Hx
open Go.Proofs
set_option maxRecDepth 100000
theorem cLawBP (d : Dps) (hl : d.l.length ≤ 16777216) : HPure Tryz.prog 8 [d.pc] (prOf [pB true]) := by
 refine hpure_of (nt := 95) Tryzok Tryz.func8 rfl rfl l9 ?_; refine hw_seq ?_; refine gy ?_; refine m9 0 ?_; refine qy ?_; refine rg_nil ?_; refine hw_seq ?_; refine gy ?_; refine qy ?_
 refine rc rfl rfl rfl rfl rfl rfl good28 (cOf d hl) (CoL.refl _) rfl rfl ?_; (iterate 7 refine qy ?_); refine rg_nil ?_; (iterate 2 refine hw_seq ?_); refine gy ?_
 refine rc rfl rfl rfl rfl rfl rfl good29 (cAwake) (CoL.refl _) rfl rfl ?_; (iterate 5 refine qy ?_); refine rg_nil ?_; refine hw_cond _ rfl (fun r0 => ?_) (fun r0 => ?_)
 ·
  have h0 := r0
  have h0 := not_t h0
  refine hw_seq ?_; refine gy ?_; refine rc rfl rfl rfl rfl rfl rfl good29 (cAwake) (CoL.refl _) rfl rfl ?_; refine qy ?_; refine rg_nil ?_; refine hw_ret ?_; refine ⟨.inr rfl, ?_⟩
  exact f9 rfl rfl (CoL.refl _)
 ·
  have h0 := r0
  have h0 := not_f h0
  have h6 : d.l.length ≤ 6 := of_decide_eq_true (by simp_all)
  refine hw_skip ?_; refine hw_seq ?_; refine gy ?_; (iterate 2 refine qy ?_); refine rc rfl rfl rfl rfl rfl rfl good35 (cPossD h6) (CoL.refl _) rfl rfl ?_; (iterate 7 refine qy ?_); refine rg_nil ?_; refine hw_seq ?_
  refine gy ?_; (iterate 2 refine qy ?_); refine rc rfl rfl rfl rfl rfl rfl good36 (cRPossD h6) (CoL.refl _) rfl rfl ?_; (iterate 7 refine qy ?_); refine rg_nil ?_; (iterate 2 refine hw_seq ?_); refine gy ?_
  (iterate 12 refine qy ?_); refine rsplit rfl rfl (fun r1 => ?_) (fun r1 => ?_)
  ·
   have h1 := r1
   exfalso
   revert r1
   simp
  ·
   have h1 := r1
   (iterate 2 refine qy ?_ (hg := (gff r1))); refine rc rfl rfl rfl rfl rfl rfl good32 (cSameX32 (possL d.num d.fds)) (CoL.refl _) rfl (gff r1) ?_; refine qy ?_ (hg := (gff r1)); (iterate 2 refine qy ?_)
   refine rsplit rfl rfl (fun r2 => ?_) (fun r2 => ?_)
   ·
    have h2 := r2
    have h2 := bif_f r1 h2
    have h2 := not_t h2
    exfalso
    revert r2
    simp
   ·
    have h2 := r2
    have h2 := bif_f r1 h2
    have h2 := not_f h2
    (iterate 2 refine qy ?_ (hg := (gff r2))); refine qy ?_; refine rg_nil ?_; refine hw_cond _ rfl (fun r3 => ?_) (fun r3 => ?_)
    ·
     have h3 := r3
     have h3 := bif_f r2 h3
     have h3 := not_t h3
     refine hw_seq ?_; refine gy ?_; (iterate 12 refine qy ?_); refine rsplit rfl rfl (fun r4 => ?_) (fun r4 => ?_)
     ·
      have h4 := r4
      (iterate 2 refine qy ?_ (hg := (gtt r4))); refine rc rfl rfl rfl rfl rfl rfl good32 (cSameX32 (possL d.num d.fds)) (CoL.refl _) rfl (gtt r4) ?_; (iterate 2 refine qy ?_); refine rg_nil ?_; refine hw_ret ?_
      refine ⟨.inr rfl, ?_⟩
      exact f9 rfl rfl (⟨ccb (by simp_all), trivial⟩)
     ·
      have h4 := r4
      (iterate 3 refine k9 (gft r4) ?_); refine rq rfl rfl rfl rfl rfl ?_ (hp := r4); refine qy ?_; refine rg_nil ?_; refine hw_ret ?_; refine ⟨.inr rfl, ?_⟩
      exact f9 rfl rfl (⟨ccb (by simp_all), trivial⟩)
    ·
     have h3 := r3
     have h3 := bif_f r2 h3
     have h3 := not_f h3
     have hb : possB d.num d.fds = true := by simp_all
     obtain ⟨k1, k2, k3⟩ := possD_ok h6 hb
     refine hw_skip ?_; refine hw_seq ?_; refine gy ?_; (iterate 3 refine qy ?_); refine rc rfl rfl rfl rfl rfl rfl good33 (cBckX k1 k2) (CoL.refl _) rfl rfl ?_; (iterate 5 refine qy ?_); refine rg_nil ?_; refine hw_seq ?_
     refine gy ?_; (iterate 6 refine qy ?_); refine rsplit rfl rfl (fun r5 => ?_) (fun r5 => ?_)
     ·
      have h5 := r5
      (iterate 2 refine qy ?_ (hg := (gtt r5))); refine rc rfl rfl rfl rfl rfl rfl good37 (cR24AllX (possL_len _ _) k3) (CoL.refl _) rfl (gtt r5) ?_; (iterate 2 refine qy ?_); refine rg_nil ?_; refine hw_ret ?_
      refine ⟨.inr rfl, ?_⟩
      exact f9 rfl rfl (⟨ccb (by simp_all), trivial⟩)
     ·
      have h5 := r5
      (iterate 3 refine k9 (gft r5) ?_); refine rq rfl rfl rfl rfl rfl ?_ (hp := r5); refine qy ?_; refine rg_nil ?_; refine hw_ret ?_; refine ⟨.inr rfl, ?_⟩
      exact f9 rfl rfl (⟨ccb (by simp_all), trivial⟩)
end Go.Hx
end
